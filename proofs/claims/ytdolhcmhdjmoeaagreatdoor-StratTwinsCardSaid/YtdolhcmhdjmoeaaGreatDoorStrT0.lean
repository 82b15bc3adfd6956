/- Printed walks and contracts. -/
import Derived.Test.YtdolhcmhdjmoeaaGreatDoorProg
import Derived.Test.YtdolhcmhdjmoeaaGreatDoorEngData
import Derived.Test.YtdolhcmhdjmoeaaGreatDoorEngTry
import Derived.Test.YtdolhcmhdjmoeaaGreatDoorEngPlain
import Derived.Test.YtdolhcmhdjmoeaaGreatDoorEngLeaf
import Derived.Test.YtdolhcmhdjmoeaaGreatDoorEngRen
set_option linter.unusedSimpArgs false
set_option linter.unusedVariables false
set_option maxRecDepth 100000
namespace Go.Proofs.Eng
open Go Go.Proofs Go.Sort
-- ballastlaw9.N
def F75 (a0 : Str) (a1 : Int) : Option Node :=
  some (⟨a0, [(⟨[99, 112, 117], a1⟩ : Amount)], ([] : (List Pair)), ([] : (List Taint)), false⟩ : Node)
/-- ballast/ballastlaw9.N -/
theorem c75 (a0 : Str) (a1 : Int) (r : Node) (h : F75 a0 a1 = some r) :
    Det Tryz.prog 75 [AV.str a0, AV.int a1] (.ret (Node.av r)) := by
  refine Det.of_le ?_
  refine @calls_of_body Tryz.prog 75 Tryz.f75 _ Tryz.func75 rfl (by kernel_rfl) [.cell 4 71] (by rw [Tryz.results75]) 10 Tryz.ntmps75 _ _ _ (by simp only [List.length_cons, List.length_nil]; decide) ?_
  unfold F75 at h
  refine awp_sr kpNone [] [] [0, 1, 4] (cs := []) (st' := ⟨10, [(0, AV.str a0), (1, AV.int a1), (4, .varp 4 0)], [(4, (false, [AV.str [], .nils, .nils, .nils, AV.bool false]))], [], []⟩) (by kernel_rfl) trivial ?_
  refine awp_sr kpNone [] [] [4] (cs := []) (st' := ⟨10, [(4, .varp 4 0)], [(4, (false, [AV.str a0, .slice (.own 8) 2 (List.map Amount.av [(⟨[99, 112, 117], a1⟩ : Amount)]), .nils, .nils, AV.bool false]))], [], [(8, (126, 2, 1))]⟩) (by kernel_rfl) trivial ?_
  have h := Option.some.inj h
  subst h
  exact awp_ret ⟨[.agg [AV.str a0, .slice (.own 8) 2 (List.map Amount.av [(⟨[99, 112, 117], a1⟩ : Amount)]), .nils, .nils, AV.bool false]], by kernel_rfl, Lw.aggL ⟨(Lw.refl _), (Lw.refl _), (Lw.nils _), (Lw.nils _), (Lw.refl _), trivial⟩⟩


-- ballastlaw9.P
def F76 (a0 : Str) (a1 : Int) (a2 : Str) : Option Pod :=
  some (⟨a0, [], 0, [(⟨[99, 112, 117], a1⟩ : Amount)], ([] : (List Pair)), ([] : (List Term)), ([] : (List Tol)), [], 0, a2, false⟩ : Pod)
/-- ballast/ballastlaw9.P -/
theorem c76 (a0 : Str) (a1 : Int) (a2 : Str) (r : Pod) (h : F76 a0 a1 a2 = some r) :
    Det Tryz.prog 76 [AV.str a0, AV.int a1, AV.str a2] (.ret (Pod.av r)) := by
  refine Det.of_le ?_
  refine @calls_of_body Tryz.prog 76 Tryz.f76 _ Tryz.func76 rfl (by kernel_rfl) [.cell 6 44] (by rw [Tryz.results76]) 13 Tryz.ntmps76 _ _ _ (by simp only [List.length_cons, List.length_nil]; decide) ?_
  unfold F76 at h
  refine awp_sr kpNone [] [] [0, 1, 2, 6] (cs := []) (st' := ⟨13, [(0, AV.str a0), (1, AV.int a1), (2, AV.str a2), (6, .varp 6 0)], [(6, (false, [AV.str [], AV.str [], AV.int 0, .nils, .nils, .nils, .nils, AV.str [], AV.int 0, AV.str [], AV.bool false]))], [], []⟩) (by kernel_rfl) trivial ?_
  refine awp_sr kpNone [] [] [6] (cs := []) (st' := ⟨13, [(6, .varp 6 0)], [(6, (false, [AV.str a0, AV.str [], AV.int 0, .slice (.own 10) 2 (List.map Amount.av [(⟨[99, 112, 117], a1⟩ : Amount)]), .nils, .nils, .nils, AV.str [], AV.int 0, AV.str a2, AV.bool false]))], [], [(10, (126, 2, 1))]⟩) (by kernel_rfl) trivial ?_
  have h := Option.some.inj h
  subst h
  exact awp_ret ⟨[.agg [AV.str a0, AV.str [], AV.int 0, .slice (.own 10) 2 (List.map Amount.av [(⟨[99, 112, 117], a1⟩ : Amount)]), .nils, .nils, .nils, AV.str [], AV.int 0, AV.str a2, AV.bool false]], by kernel_rfl, Lw.aggL ⟨(Lw.refl _), (Lw.refl _), (Lw.refl _), (Lw.refl _), (Lw.nils _), (Lw.nils _), (Lw.nils _), (Lw.refl _), (Lw.refl _), (Lw.refl _), (Lw.refl _), trivial⟩⟩


-- node.Find
def F115.l6 (a0 : (List Node)) (a1 : Str) (rec6 : (Int) → Option (Node × Bool)) : (Int) → Option (Node × Bool) := fun p6 =>
  if decide (p6 < (List.length a0 : Int)) = true then ((getI a0 p6).bind fun x12_0 => if decide (x12_0.Name = a1) = true then (some (x12_0, true)) else (rec6 (w64 (p6 + (1 : Int))))) else (some ((⟨[], ([] : (List Amount)), ([] : (List Pair)), ([] : (List Taint)), false⟩ : Node), false))
def F115 (l6 : (Int) → Option (Node × Bool)) (a0 : (List Node)) (a1 : Str) : Option (Node × Bool) :=
  l6 0
/-- ballast/node.Find -/
theorem c115 (a0 : (List Node)) (a1 : Str) (l6 : (Int) → Option (Node × Bool)) (hl6 : Rounds (F115.l6 a0 a1) (l6)) (r : (Node × Bool)) (h : F115 l6 a0 a1 = some r) :
    Det Tryz.prog 115 [AV.lst 5 Node.av a0, AV.str a1] (.ret (.tuple [Node.av r.1, AV.bool r.2])) := by
  refine Det.of_le ?_
  refine @calls_of_body Tryz.prog 115 Tryz.f115 _ Tryz.func115 rfl (by kernel_rfl) [.cell 4 71, .tmp 5] (by rw [Tryz.results115]) 21 Tryz.ntmps115 _ _ _ (by simp only [List.length_cons, List.length_nil]; decide) ?_
  unfold F115 at h
  refine awp_sr kpNone [] [] [0, 1, 4] (cs := []) (st' := ⟨21, [(0, AV.lst 5 Node.av a0), (1, AV.str a1), (4, .varp 4 0)], [(4, (false, [AV.str [], .nils, .nils, .nils, AV.bool false]))], [], []⟩) (by kernel_rfl) trivial ?_
  refine awp_seq fun N3 hN3 => ?_
  refine awp_sr kpNone [(1, AV.int (List.length a0 : Int))] [] [1, 4, 8, 9, 10] (cs := [((AV.int (List.length a0 : Int) = .val (.int .i64 (List.length (List.map Node.av a0) : Int))))]) (st' := ⟨21, [(1, AV.str a1), (4, .varp 4 0), (8, AV.lst 5 Node.av a0), (9, AV.int (List.length a0 : Int)), (10, AV.int 0)], [(4, (false, [AV.str [], .nils, .nils, .nils, AV.bool false]))], [], []⟩) (by kernel_rfl) ⟨len_map _ _, trivial⟩ ?_
  refine awp_block ?_
  refine awp_loop ?_
  refine awpL_le (st' := ⟨21, [(1, AV.str a1), (4, .varp 4 0), (8, AV.lst 5 Node.av a0), (9, AV.int (List.length a0 : Int)), (10, AV.int 0)], [(4, (false, [AV.str [], .nils, .nils, .nils, AV.bool false]))], [], []⟩) ?_ ?_
  · exact Le.rfl'
  refine awpL_fix hl6 r (fun p6 => ⟨21, [(1, AV.str a1), (4, .varp 4 0), (8, AV.lst 5 Node.av a0), (9, AV.int (List.length a0 : Int)), (10, AV.int p6)], [(4, (false, [AV.str [], .nils, .nils, .nils, AV.bool false]))], [], []⟩) (fun rec6 hrec6 p6 h => ?_) 0 h
  unfold F115.l6 at h
  refine awpL_round ?_
  refine awp_sr kpNone [] [] [1, 4, 8, 9, 10, 11] (cs := []) (st' := ⟨21, [(1, AV.str a1), (4, .varp 4 0), (8, AV.lst 5 Node.av a0), (9, AV.int (List.length a0 : Int)), (10, AV.int p6), (11, AV.bool (decide (p6 < (List.length a0 : Int))))], [(4, (false, [AV.str [], .nils, .nils, .nils, AV.bool false]))], [], []⟩) (by kernel_rfl) trivial ?_
  refine awp_seq fun N9 hN9 => ?_
  refine awp_cond (t := decide (p6 < (List.length a0 : Int))) rfl (fun hb => ?_) (fun hb => ?_)
  · rw [if_pos hb] at h
    refine awp_skip ?_
    refine hN9 _ ?_
    refine awp_seq fun N10 hN10 => ?_
    refine awp_block ?_
    obtain ⟨x12_0, hx12_0, h⟩ := Option.bind_eq_some_iff.1 h
    refine awp_sr kpNone [(0, Node.av x12_0)] [] [1, 4, 7, 8, 9, 10] (cs := [(0 ≤ p6), ((List.map Node.av a0)[Int.toNat p6]? = some (Node.av x12_0))]) (st' := ⟨21, [(1, AV.str a1), (4, .varp 4 0), (7, .varp 7 0), (8, AV.lst 5 Node.av a0), (9, AV.int (List.length a0 : Int)), (10, AV.int p6)], [(7, (false, x12_0.cs)), (4, (false, [AV.str [], .nils, .nils, .nils, AV.bool false]))], [], []⟩) (by kernel_rfl) ⟨getI_le hx12_0, getI_map hx12_0 _, trivial⟩ ?_
    refine awp_sr kpNone [] [] [1, 4, 7, 8, 9, 10, 17] (cs := []) (st' := ⟨21, [(1, AV.str a1), (4, .varp 4 0), (7, .varp 7 0), (8, AV.lst 5 Node.av a0), (9, AV.int (List.length a0 : Int)), (10, AV.int p6), (17, AV.bool (decide (x12_0.Name = a1)))], [(7, (false, x12_0.cs)), (4, (false, [AV.str [], .nils, .nils, .nils, AV.bool false]))], [], []⟩) (by kernel_rfl) trivial ?_
    refine awp_cond (t := decide (x12_0.Name = a1)) rfl (fun hb => ?_) (fun hb => ?_)
    · rw [if_pos hb] at h
      refine awp_sr kpNone [] [] [4, 5] (cs := []) (st' := ⟨21, [(4, .varp 4 0), (5, AV.bool true)], [(4, (false, x12_0.cs)), (7, (false, x12_0.cs))], [], []⟩) (by kernel_rfl) trivial ?_
      have h := Option.some.inj h
      subst h
      exact awp_ret ⟨[Node.av x12_0, AV.bool true], by kernel_rfl, Lw.refl _⟩
    · rw [if_false hb] at h
      refine awp_skip ?_
      refine hN10 _ ?_
      refine awp_reg kpNone [] [] [1, 4, 8, 9, 10] (cs := []) (st' := ⟨21, [(1, AV.str a1), (4, .varp 4 0), (8, AV.lst 5 Node.av a0), (9, AV.int (List.length a0 : Int)), (10, AV.int (w64 (p6 + (1 : Int))))], [(7, (false, x12_0.cs)), (4, (false, [AV.str [], .nils, .nils, .nils, AV.bool false]))], [], []⟩) (by kernel_rfl) trivial ?_
      refine awpL_le ?_ (hrec6 _ h)
      exact Le.mk rfl ⟨rfl, ⟨rfl, rfl⟩, .inl rfl, rfl, rfl, trivial⟩ ⟨⟨rfl, ⟨rfl, rfl, rfl, rfl, rfl, trivial⟩⟩, trivial⟩ trivial trivial
  · rw [if_false hb] at h
    refine awp_exit ?_
    refine hN3 _ ?_
    refine awp_sr kpNone [] [] [4, 5] (cs := []) (st' := ⟨21, [(4, .varp 4 0), (5, AV.bool false)], [(4, (false, [AV.str [], .nils, .nils, .nils, AV.bool false]))], [], []⟩) (by kernel_rfl) trivial ?_
    have h := Option.some.inj h
    subst h
    exact awp_ret ⟨[.agg [AV.str [], .nils, .nils, .nils, AV.bool false], AV.bool false], by kernel_rfl, Lw.tupleL ⟨(Lw.aggL ⟨(Lw.refl _), (Lw.nils _), (Lw.nils _), (Lw.nils _), (Lw.refl _), trivial⟩), (Lw.refl _), trivial⟩⟩
-- {"kind": "tot", "S": "nodeFind", "thm": "d115"}
theorem d115 (a0 : List Node) (a1 : Str) : Det Tryz.prog 115 [AV.lst 5 Node.av a0, AV.str a1] (.ret (.tuple [Node.av (nodeFind a0 a1).1, AV.bool (nodeFind a0 a1).2])) := by
  refine Det.len 0 rfl fun hl => c115 a0 a1 _ (rounds_list a0 hl (fun t => some (nodeFind t a1)) _ ?_ ?_) _ ?_
  · intro rec
    simp [F115.l6, nodeFind, Node.none]
  · intro rec p x t h0 h1 hx hd hr hw
    simp only [F115.l6, hx, hw, hr, h1, decide_true, if_true, Option.bind_some, nodeFind, decide_eq_true_eq]
    split <;> rfl
  · simp [F115]


-- taint.Bears$1
def F288 (a0 : Tol) (a1 : Taint) : Option Bool :=
  some (bif (decide (a0.Key = [])) then (a0.Any || (decide (a0.Val = a1.Val))) else ((decide (a0.Key = a1.Key)) && (a0.Any || (decide (a0.Val = a1.Val)))))
/-- ballast/taint.Bears$1 -/
theorem c288 (a0 : Tol) (a1 : Taint) (r : Bool) (h : F288 a0 a1 = some r) :
    Det Tryz.prog 288 [Tol.av a0, .inp a1.cs] (.ret (AV.bool r)) := by
  refine Det.of_le ?_
  refine @calls_of_body Tryz.prog 288 Tryz.f288 _ Tryz.func288 rfl (by kernel_rfl) [.tmp 3] (by rw [Tryz.results288]) 25 Tryz.ntmps288 _ _ _ (by simp only [List.length_cons, List.length_nil]; decide) ?_
  unfold F288 at h
  refine awp_sr kpNone [] [] [1, 2] (cs := []) (st' := ⟨25, [(1, .inp a1.cs), (2, .varp 2 0)], [(2, (false, a0.cs))], [], []⟩) (by kernel_rfl) trivial ?_
  refine awp_seq fun N3 hN3 => ?_
  refine awp_to (σ := Bool) (fun p => ⟨25, [(3, AV.bool p)], [(2, (false, a0.cs))], [], []⟩) (fun p => p = (bif (decide (a0.Key = [])) then (a0.Any || (decide (a0.Val = a1.Val))) else ((decide (a0.Key = a1.Key)) && (a0.Any || (decide (a0.Val = a1.Val)))))) (fun p hp => ?_) (fun N9 hJ9 => ?_)
  · subst hp
    refine hN3 _ ?_
    have h := Option.some.inj h
    subst h
    exact awp_ret ⟨[AV.bool (bif (decide (a0.Key = [])) then (a0.Any || (decide (a0.Val = a1.Val))) else ((decide (a0.Key = a1.Key)) && (a0.Any || (decide (a0.Val = a1.Val)))))], by kernel_rfl, Lw.refl _⟩
  · by_cases hg5 : decide (a0.Key = []) = true
    · by_cases hg6 : a0.Any = true
      · refine awp_reg kpNone [] [(3, true), (13, true)] [3] (cs := [(decide (a0.Key = []) = true), (a0.Any = true)]) (st' := ⟨25, [(3, AV.bool true)], [(2, (false, a0.cs))], [], []⟩) (by kernel_rfl) ⟨hg5, hg6, trivial⟩ ?_
        exact hJ9 true _ (by first | rfl | (rw [hg5, hg6]; done) | (rw [hg5, hg6]; rfl) | (simp [hg5, hg6]; done) | (exfalso; revert hg5 hg6; simp; done) | (exfalso; revert hg5 hg6; simp; intros; assumption)) (Le.rfl')
      · have hg6 := Bool.eq_false_iff.2 hg6
        refine awp_reg kpNone [] [(3, true), (13, false)] [3] (cs := [(decide (a0.Key = []) = true), (a0.Any = false)]) (st' := ⟨25, [(3, AV.bool (decide (a0.Val = a1.Val)))], [(2, (false, a0.cs))], [], []⟩) (by kernel_rfl) ⟨hg5, hg6, trivial⟩ ?_
        exact hJ9 (decide (a0.Val = a1.Val)) _ (by first | rfl | (rw [hg5, hg6]; done) | (rw [hg5, hg6]; rfl) | (simp [hg5, hg6]; done) | (exfalso; revert hg5 hg6; simp; done) | (exfalso; revert hg5 hg6; simp; intros; assumption)) (Le.rfl')
    · have hg5 := Bool.eq_false_iff.2 hg5
      by_cases hg7 : decide (a0.Key = a1.Key) = true
      · by_cases hg8 : a0.Any = true
        · refine awp_reg kpNone [] [(3, false), (10, true), (13, true)] [3] (cs := [(decide (a0.Key = []) = false), (decide (a0.Key = a1.Key) = true), (a0.Any = true)]) (st' := ⟨25, [(3, AV.bool true)], [(2, (false, a0.cs))], [], []⟩) (by kernel_rfl) ⟨hg5, hg7, hg8, trivial⟩ ?_
          exact hJ9 true _ (by first | rfl | (rw [hg5, hg7, hg8]; done) | (rw [hg5, hg7, hg8]; rfl) | (simp [hg5, hg7, hg8]; done) | (exfalso; revert hg5 hg7 hg8; simp; done) | (exfalso; revert hg5 hg7 hg8; simp; intros; assumption)) (Le.rfl')
        · have hg8 := Bool.eq_false_iff.2 hg8
          refine awp_reg kpNone [] [(3, false), (10, true), (13, false)] [3] (cs := [(decide (a0.Key = []) = false), (decide (a0.Key = a1.Key) = true), (a0.Any = false)]) (st' := ⟨25, [(3, AV.bool (decide (a0.Val = a1.Val)))], [(2, (false, a0.cs))], [], []⟩) (by kernel_rfl) ⟨hg5, hg7, hg8, trivial⟩ ?_
          exact hJ9 (decide (a0.Val = a1.Val)) _ (by first | rfl | (rw [hg5, hg7, hg8]; done) | (rw [hg5, hg7, hg8]; rfl) | (simp [hg5, hg7, hg8]; done) | (exfalso; revert hg5 hg7 hg8; simp; done) | (exfalso; revert hg5 hg7 hg8; simp; intros; assumption)) (Le.rfl')
      · have hg7 := Bool.eq_false_iff.2 hg7
        refine awp_reg kpNone [] [(3, false), (10, false)] [3] (cs := [(decide (a0.Key = []) = false), (decide (a0.Key = a1.Key) = false)]) (st' := ⟨25, [(3, AV.bool false)], [(2, (false, a0.cs))], [], []⟩) (by kernel_rfl) ⟨hg5, hg7, trivial⟩ ?_
        exact hJ9 false _ (by first | rfl | (rw [hg5, hg7]; done) | (rw [hg5, hg7]; rfl) | (simp [hg5, hg7]; done) | (exfalso; revert hg5 hg7; simp; done) | (exfalso; revert hg5 hg7; simp; intros; assumption)) (Le.rfl')


-- slices.IndexFunc[[]taint.Tol,taint.Tol]
def F311.l6 (a0 : (List Tol)) (g1 : Tol → Option Bool) (rec6 : (Int) → Option Int) : (Int) → Option Int := fun p6 =>
  if decide (p6 < (List.length a0 : Int)) = true then ((getI a0 p6).bind fun x14_3 => (g1 x14_3).bind fun x14_5 => if x14_5 = true then (some p6) else (rec6 (w64 (p6 + (1 : Int))))) else (some (-1))
def F311 (l6 : (Int) → Option Int) (a0 : (List Tol)) (g1 : Tol → Option Bool) : Option Int :=
  l6 0
/-- slices.IndexFunc[[]ballast/taint.Tol,ballast/taint.Tol] -/
theorem c311 (a0 : (List Tol)) (g1 : Tol → Option Bool) (gf1 : FuncId) (gc1 : List AV) (hc1 : List.map AV.cl0 gc1 = gc1) (hg1 : ∀ (y0 : Tol) (r : Bool), g1 y0 = some r → Det Tryz.prog gf1 ((Tol.av y0) :: List.map AV.cl gc1) (.ret (AV.bool r))) (l6 : (Int) → Option Int) (hl6 : Rounds (F311.l6 a0 g1) (l6)) (r : Int) (h : F311 l6 a0 g1 = some r) :
    Det Tryz.prog 311 [AV.lst 3 Tol.av a0, .func gf1 gc1] (.ret (AV.int r)) := by
  refine Det.of_le ?_
  refine @calls_of_body Tryz.prog 311 Tryz.f311 _ Tryz.func311 rfl (by kernel_rfl) [.tmp 4] (by rw [Tryz.results311]) 19 Tryz.ntmps311 _ _ _ (by simp only [List.length_cons, List.length_nil]; decide) ?_
  unfold F311 at h
  refine awp_sr kpNone [] [] [0, 1] (cs := []) (st' := ⟨19, [(0, AV.lst 3 Tol.av a0), (1, .func gf1 gc1)], [], [], []⟩) (by kernel_rfl) trivial ?_
  refine awp_seq fun N3 hN3 => ?_
  refine awp_sr kpNone [(1, AV.int (List.length a0 : Int))] [] [0, 1, 7, 8] (cs := [((AV.int (List.length a0 : Int) = .val (.int .i64 (List.length (List.map Tol.av a0) : Int))))]) (st' := ⟨19, [(0, AV.lst 3 Tol.av a0), (1, .func gf1 gc1), (7, AV.int (List.length a0 : Int)), (8, AV.int 0)], [], [], []⟩) (by kernel_rfl) ⟨len_map _ _, trivial⟩ ?_
  refine awp_block ?_
  refine awp_loop ?_
  refine awpL_le (st' := ⟨19, [(0, AV.lst 3 Tol.av a0), (1, .func gf1 gc1), (7, AV.int (List.length a0 : Int)), (8, AV.int 0)], [], [], []⟩) ?_ ?_
  · exact Le.rfl'
  refine awpL_fix hl6 r (fun p6 => ⟨19, [(0, AV.lst 3 Tol.av a0), (1, .func gf1 gc1), (7, AV.int (List.length a0 : Int)), (8, AV.int p6)], [], [], []⟩) (fun rec6 hrec6 p6 h => ?_) 0 h
  unfold F311.l6 at h
  refine awpL_round ?_
  refine awp_sr kpNone [] [] [0, 1, 7, 8, 9] (cs := []) (st' := ⟨19, [(0, AV.lst 3 Tol.av a0), (1, .func gf1 gc1), (7, AV.int (List.length a0 : Int)), (8, AV.int p6), (9, AV.bool (decide (p6 < (List.length a0 : Int))))], [], [], []⟩) (by kernel_rfl) trivial ?_
  refine awp_seq fun N9 hN9 => ?_
  refine awp_cond (t := decide (p6 < (List.length a0 : Int))) rfl (fun hb => ?_) (fun hb => ?_)
  · rw [if_pos hb] at h
    refine awp_skip ?_
    refine hN9 _ ?_
    refine awp_seq fun N10 hN10 => ?_
    refine awp_block ?_
    refine awp_sr kpNone [] [] [0, 1, 5, 7, 8] (cs := []) (st' := ⟨19, [(0, AV.lst 3 Tol.av a0), (1, .func gf1 gc1), (5, AV.int p6), (7, AV.int (List.length a0 : Int)), (8, AV.int p6)], [], [], []⟩) (by kernel_rfl) trivial ?_
    obtain ⟨x14_3, hx14_3, h⟩ := Option.bind_eq_some_iff.1 h
    obtain ⟨x14_5, hx14_5, h⟩ := Option.bind_eq_some_iff.1 h
    refine awp_sr kpNone [(3, Tol.av x14_3), (5, AV.bool x14_5)] [] [0, 1, 5, 7, 8, 16] (cs := [(0 ≤ p6), ((List.map Tol.av a0)[Int.toNat p6]? = some (Tol.av x14_3)), (Det Tryz.prog gf1 ((Tol.av x14_3) :: List.map AV.cl gc1) (.ret (AV.bool x14_5)))]) (st' := ⟨19, [(0, AV.lst 3 Tol.av a0), (1, .func gf1 gc1), (5, AV.int p6), (7, AV.int (List.length a0 : Int)), (8, AV.int p6), (16, AV.bool x14_5)], [], [], []⟩) (by kernel_rfl) ⟨getI_le hx14_3, getI_map hx14_3 _, hg1 x14_3 _ hx14_5, trivial⟩ ?_
    refine awp_cond (t := x14_5) rfl (fun hb => ?_) (fun hb => ?_)
    · rw [if_pos hb] at h
      refine awp_sr kpNone [] [] [4] (cs := []) (st' := ⟨19, [(4, AV.int p6)], [], [], []⟩) (by kernel_rfl) trivial ?_
      have h := Option.some.inj h
      subst h
      exact awp_ret ⟨[AV.int p6], by kernel_rfl, Lw.refl _⟩
    · rw [if_false hb] at h
      refine awp_skip ?_
      refine hN10 _ ?_
      refine awp_reg kpNone [] [] [0, 1, 7, 8] (cs := []) (st' := ⟨19, [(0, AV.lst 3 Tol.av a0), (1, .func gf1 gc1), (7, AV.int (List.length a0 : Int)), (8, AV.int (w64 (p6 + (1 : Int))))], [], [], []⟩) (by kernel_rfl) trivial ?_
      refine awpL_le ?_ (hrec6 _ h)
      exact Le.rfl'
  · rw [if_false hb] at h
    refine awp_exit ?_
    refine hN3 _ ?_
    refine awp_sr kpNone [] [] [4] (cs := []) (st' := ⟨19, [(4, AV.int (-1))], [], [], []⟩) (by kernel_rfl) trivial ?_
    have h := Option.some.inj h
    subst h
    exact awp_ret ⟨[AV.int (-1)], by kernel_rfl, Lw.refl _⟩
-- {"kind": "opt", "S": "(fun l g => idxF g 0 l)", "thm": "d311"}
theorem d311 (a0 : List Tol) (g1 : Tol → Option Bool) (gf1 : FuncId) (gc1 : List AV) (hc1 : List.map AV.cl0 gc1 = gc1) (hg1 : ∀ (y0 : Tol) (r : Bool), g1 y0 = some r → Det Tryz.prog gf1 ((Tol.av y0) :: List.map AV.cl gc1) (.ret (AV.bool r))) (r : Int) (h : idxF g1 0 a0 = some r) :
    Det Tryz.prog 311 [AV.lst 3 Tol.av a0, .func gf1 gc1] (.ret (AV.int r)) := by
  refine Det.len 0 rfl fun hl => c311 a0 g1 gf1 gc1 hc1 hg1 _ (rounds_at a0 hl (fun p t => idxF g1 p t) _ ?_ ?_) _ ?_
  · intro rec
    simp [F311.l6, idxF]
  · intro rec p x t h0 h1 hx hr hw
    simp only [F311.l6, hx, hw, hr, h1, decide_true, if_true, Option.bind_some, idxF]
  · simp [F311, h]


-- slices.ContainsFunc[[]taint.Tol,taint.Tol]
def F287 (a0 : (List Tol)) (g1 : Tol → Option Bool) : Option Bool :=
  ((fun l g => idxF g 0 l) a0 g1).bind fun x4_2 => some (decide ((0 : Int) ≤ x4_2))
/-- slices.ContainsFunc[[]ballast/taint.Tol,ballast/taint.Tol] -/
theorem c287 (a0 : (List Tol)) (g1 : Tol → Option Bool) (gf1 : FuncId) (gc1 : List AV) (hc1 : List.map AV.cl0 gc1 = gc1) (hg1 : ∀ (y0 : Tol) (r : Bool), g1 y0 = some r → Det Tryz.prog gf1 ((Tol.av y0) :: List.map AV.cl gc1) (.ret (AV.bool r))) (r : Bool) (h : F287 a0 g1 = some r) :
    Det Tryz.prog 287 [AV.lst 3 Tol.av a0, .func gf1 gc1] (.ret (AV.bool r)) := by
  refine Det.of_le ?_
  refine @calls_of_body Tryz.prog 287 Tryz.f287 _ Tryz.func287 rfl (by kernel_rfl) [.tmp 4] (by rw [Tryz.results287]) 9 Tryz.ntmps287 _ _ _ (by simp only [List.length_cons, List.length_nil]; decide) ?_
  unfold F287 at h
  refine awp_sr kpNone [] [] [0, 1] (cs := []) (st' := ⟨9, [(0, AV.lst 3 Tol.av a0), (1, .func gf1 gc1)], [], [], []⟩) (by kernel_rfl) trivial ?_
  obtain ⟨x4_2, hx4_2, h⟩ := Option.bind_eq_some_iff.1 h
  refine awp_sr kpNone [(2, AV.int x4_2)] [] [4] (cs := [(Det Tryz.prog 311 [AV.lst 3 Tol.av a0, .func gf1 (List.map AV.cl0 gc1)] (.ret (AV.int x4_2)))]) (st' := ⟨9, [(4, AV.bool (decide ((0 : Int) ≤ x4_2)))], [], [], []⟩) (by kernel_rfl) ⟨by rw [hc1]; exact (d311 a0 g1 gf1 gc1 hc1 hg1 _ hx4_2), trivial⟩ ?_
  have h := Option.some.inj h
  subst h
  exact awp_ret ⟨[AV.bool (decide ((0 : Int) ≤ x4_2))], by kernel_rfl, Lw.refl _⟩
-- {"kind": "opt", "S": "(fun l g => anyF g l)", "thm": "d287"}
theorem d287 (a0 : List Tol) (g1 : Tol → Option Bool) (gf1 : FuncId) (gc1 : List AV) (hc1 : List.map AV.cl0 gc1 = gc1) (hg1 : ∀ (y0 : Tol) (r : Bool), g1 y0 = some r → Det Tryz.prog gf1 ((Tol.av y0) :: List.map AV.cl gc1) (.ret (AV.bool r))) (r : Bool) (h : anyF g1 a0 = some r) :
    Det Tryz.prog 287 [AV.lst 3 Tol.av a0, .func gf1 gc1] (.ret (AV.bool r)) := by
  refine c287 a0 g1 gf1 gc1 hc1 hg1 _ ?_
  rw [← idxF_any g1 a0 0 (by omega)] at h
  exact h


-- taint.Bears
def F215 (a0 : (List Tol)) (a1 : Taint) : Option Bool :=
  ((fun l g => anyF g l) a0 (fun y0 => F288 y0 a1)).bind fun x4_2 => some x4_2
/-- ballast/taint.Bears -/
theorem c215 (a0 : (List Tol)) (a1 : Taint) (r : Bool) (h : F215 a0 a1 = some r) :
    Det Tryz.prog 215 [AV.lst 3 Tol.av a0, Taint.av a1] (.ret (AV.bool r)) := by
  refine Det.of_le ?_
  refine @calls_of_body Tryz.prog 215 Tryz.f215 _ Tryz.func215 rfl (by kernel_rfl) [.tmp 4] (by rw [Tryz.results215]) 8 Tryz.ntmps215 _ _ _ (by simp only [List.length_cons, List.length_nil]; decide) ?_
  unfold F215 at h
  refine awp_sr kpNone [] [] [0, 3] (cs := []) (st' := ⟨8, [(0, AV.lst 3 Tol.av a0), (3, .varp 3 0)], [(3, (false, a1.cs))], [], []⟩) (by kernel_rfl) trivial ?_
  obtain ⟨x4_2, hx4_2, h⟩ := Option.bind_eq_some_iff.1 h
  refine awp_sr kpNone [(2, AV.bool x4_2)] [] [4] (cs := [(Det Tryz.prog 287 [AV.lst 3 Tol.av a0, .func 288 [.inp a1.cs]] (.ret (AV.bool x4_2)))]) (st' := ⟨8, [(4, AV.bool x4_2)], [(3, (true, a1.cs))], [], []⟩) (by kernel_rfl) ⟨d287 a0 (fun y0 => F288 y0 a1) 288 [.inp a1.cs] rfl (fun y0 _ hy => c288 y0 a1 _ hy) _ hx4_2, trivial⟩ ?_
  have h := Option.some.inj h
  subst h
  exact awp_ret ⟨[AV.bool x4_2], by kernel_rfl, Lw.refl _⟩


-- taint.Worst
def F118.j16 (x12_0 : Taint) (rec6 : (Int) → Option (Taint × Bool)) (p6 : Int) : (Bool) → Option (Taint × Bool) := fun p16 =>
  if p16 = true then (some (x12_0, true)) else (rec6 (w64 (p6 + (1 : Int))))
def F118.l6 (a1 : (List Taint)) (a0 : (List Tol)) (rec6 : (Int) → Option (Taint × Bool)) : (Int) → Option (Taint × Bool) := fun p6 =>
  if decide (p6 < (List.length a1 : Int)) = true then ((getI a1 p6).bind fun x12_0 => if x12_0.Hard = true then ((F215 a0 x12_0).bind fun x14_5 => F118.j16 x12_0 rec6 p6 (!x14_5)) else (F118.j16 x12_0 rec6 p6 false)) else (some ((⟨[], [], false⟩ : Taint), false))
def F118 (l6 : (Int) → Option (Taint × Bool)) (a0 : (List Tol)) (a1 : (List Taint)) : Option (Taint × Bool) :=
  l6 0
/-- ballast/taint.Worst -/
theorem c118 (a0 : (List Tol)) (a1 : (List Taint)) (l6 : (Int) → Option (Taint × Bool)) (hl6 : Rounds (F118.l6 a1 a0) (l6)) (r : (Taint × Bool)) (h : F118 l6 a0 a1 = some r) :
    Det Tryz.prog 118 [AV.lst 3 Tol.av a0, AV.lst 3 Taint.av a1] (.ret (.tuple [Taint.av r.1, AV.bool r.2])) := by
  refine Det.of_le ?_
  refine @calls_of_body Tryz.prog 118 Tryz.f118 _ Tryz.func118 rfl (by kernel_rfl) [.cell 4 164, .tmp 5] (by rw [Tryz.results118]) 25 Tryz.ntmps118 _ _ _ (by simp only [List.length_cons, List.length_nil]; decide) ?_
  unfold F118 at h
  refine awp_sr kpNone [] [] [0, 1, 4] (cs := []) (st' := ⟨25, [(0, AV.lst 3 Tol.av a0), (1, AV.lst 3 Taint.av a1), (4, .varp 4 0)], [(4, (false, [AV.str [], AV.str [], AV.bool false]))], [], []⟩) (by kernel_rfl) trivial ?_
  refine awp_seq fun N3 hN3 => ?_
  refine awp_sr kpNone [(1, AV.int (List.length a1 : Int))] [] [0, 4, 8, 9, 10] (cs := [((AV.int (List.length a1 : Int) = .val (.int .i64 (List.length (List.map Taint.av a1) : Int))))]) (st' := ⟨25, [(0, AV.lst 3 Tol.av a0), (4, .varp 4 0), (8, AV.lst 3 Taint.av a1), (9, AV.int (List.length a1 : Int)), (10, AV.int 0)], [(4, (false, [AV.str [], AV.str [], AV.bool false]))], [], []⟩) (by kernel_rfl) ⟨len_map _ _, trivial⟩ ?_
  refine awp_block ?_
  refine awp_loop ?_
  refine awpL_le (st' := ⟨25, [(0, AV.lst 3 Tol.av a0), (4, .varp 4 0), (8, AV.lst 3 Taint.av a1), (9, AV.int (List.length a1 : Int)), (10, AV.int 0)], [(4, (false, [AV.str [], AV.str [], AV.bool false]))], [], []⟩) ?_ ?_
  · exact Le.rfl'
  refine awpL_fix hl6 r (fun p6 => ⟨25, [(0, AV.lst 3 Tol.av a0), (4, .varp 4 0), (8, AV.lst 3 Taint.av a1), (9, AV.int (List.length a1 : Int)), (10, AV.int p6)], [(4, (false, [AV.str [], AV.str [], AV.bool false]))], [], []⟩) (fun rec6 hrec6 p6 h => ?_) 0 h
  unfold F118.l6 at h
  refine awpL_round ?_
  refine awp_sr kpNone [] [] [0, 4, 8, 9, 10, 11] (cs := []) (st' := ⟨25, [(0, AV.lst 3 Tol.av a0), (4, .varp 4 0), (8, AV.lst 3 Taint.av a1), (9, AV.int (List.length a1 : Int)), (10, AV.int p6), (11, AV.bool (decide (p6 < (List.length a1 : Int))))], [(4, (false, [AV.str [], AV.str [], AV.bool false]))], [], []⟩) (by kernel_rfl) trivial ?_
  refine awp_seq fun N9 hN9 => ?_
  refine awp_cond (t := decide (p6 < (List.length a1 : Int))) rfl (fun hb => ?_) (fun hb => ?_)
  · rw [if_pos hb] at h
    refine awp_skip ?_
    refine hN9 _ ?_
    refine awp_seq fun N10 hN10 => ?_
    refine awp_block ?_
    obtain ⟨x12_0, hx12_0, h⟩ := Option.bind_eq_some_iff.1 h
    refine awp_sr kpNone [(0, Taint.av x12_0)] [] [0, 4, 7, 8, 9, 10] (cs := [(0 ≤ p6), ((List.map Taint.av a1)[Int.toNat p6]? = some (Taint.av x12_0))]) (st' := ⟨25, [(0, AV.lst 3 Tol.av a0), (4, .varp 4 0), (7, .varp 7 0), (8, AV.lst 3 Taint.av a1), (9, AV.int (List.length a1 : Int)), (10, AV.int p6)], [(7, (false, x12_0.cs)), (4, (false, [AV.str [], AV.str [], AV.bool false]))], [], []⟩) (by kernel_rfl) ⟨getI_le hx12_0, getI_map hx12_0 _, trivial⟩ ?_
    refine awp_seq fun N13 hN13 => ?_
    refine awp_to (σ := Bool) (fun p16 => ⟨25, [(0, AV.lst 3 Tol.av a0), (4, .varp 4 0), (7, .varp 7 0), (8, AV.lst 3 Taint.av a1), (9, AV.int (List.length a1 : Int)), (10, AV.int p6), (21, AV.bool p16)], [(7, (false, x12_0.cs)), (4, (false, [AV.str [], AV.str [], AV.bool false]))], [], []⟩) (fun p16 => F118.j16 x12_0 rec6 p6 p16 = some r) (fun p16 h => ?_) (fun N16 hJ16 => ?_)
    · unfold F118.j16 at h
      refine hN13 _ ?_
      refine awp_cond (t := p16) rfl (fun hb => ?_) (fun hb => ?_)
      · rw [if_pos hb] at h
        refine awp_sr kpNone [] [] [4, 5] (cs := []) (st' := ⟨25, [(4, .varp 4 0), (5, AV.bool true)], [(4, (false, x12_0.cs)), (7, (false, x12_0.cs))], [], []⟩) (by kernel_rfl) trivial ?_
        have h := Option.some.inj h
        subst h
        exact awp_ret ⟨[Taint.av x12_0, AV.bool true], by kernel_rfl, Lw.refl _⟩
      · rw [if_false hb] at h
        refine awp_skip ?_
        refine hN10 _ ?_
        refine awp_reg kpNone [] [] [0, 4, 8, 9, 10] (cs := []) (st' := ⟨25, [(0, AV.lst 3 Tol.av a0), (4, .varp 4 0), (8, AV.lst 3 Taint.av a1), (9, AV.int (List.length a1 : Int)), (10, AV.int (w64 (p6 + (1 : Int))))], [(7, (false, x12_0.cs)), (4, (false, [AV.str [], AV.str [], AV.bool false]))], [], []⟩) (by kernel_rfl) trivial ?_
        refine awpL_le ?_ (hrec6 _ h)
        exact Le.mk rfl ⟨.inl rfl, ⟨rfl, rfl⟩, .inl rfl, rfl, rfl, trivial⟩ ⟨⟨rfl, ⟨rfl, rfl, rfl, trivial⟩⟩, trivial⟩ trivial trivial
    · by_cases hg15 : x12_0.Hard = true
      · rw [if_pos hg15] at h
        obtain ⟨x14_5, hx14_5, h⟩ := Option.bind_eq_some_iff.1 h
        refine awp_reg kpNone [(5, AV.bool x14_5)] [(2, true)] [0, 4, 7, 8, 9, 10, 21] (cs := [(x12_0.Hard = true), (Det Tryz.prog 215 [AV.lst 3 Tol.av a0, Taint.av x12_0] (.ret (AV.bool x14_5)))]) (st' := ⟨25, [(0, AV.lst 3 Tol.av a0), (4, .varp 4 0), (7, .varp 7 0), (8, AV.lst 3 Taint.av a1), (9, AV.int (List.length a1 : Int)), (10, AV.int p6), (21, AV.bool (!x14_5))], [(7, (false, x12_0.cs)), (4, (false, [AV.str [], AV.str [], AV.bool false]))], [], []⟩) (by kernel_rfl) ⟨hg15, c215 a0 x12_0 _ hx14_5, trivial⟩ ?_
        exact hJ16 (!x14_5) _ h (Le.rfl')
      · rw [if_neg hg15] at h
        have hg15 := Bool.eq_false_iff.2 hg15
        refine awp_reg kpNone [] [(2, false)] [0, 4, 7, 8, 9, 10, 21] (cs := [(x12_0.Hard = false)]) (st' := ⟨25, [(0, AV.lst 3 Tol.av a0), (4, .varp 4 0), (7, .varp 7 0), (8, AV.lst 3 Taint.av a1), (9, AV.int (List.length a1 : Int)), (10, AV.int p6), (21, AV.bool false)], [(7, (false, x12_0.cs)), (4, (false, [AV.str [], AV.str [], AV.bool false]))], [], []⟩) (by kernel_rfl) ⟨hg15, trivial⟩ ?_
        exact hJ16 false _ h (Le.rfl')
  · rw [if_false hb] at h
    refine awp_exit ?_
    refine hN3 _ ?_
    refine awp_sr kpNone [] [] [4, 5] (cs := []) (st' := ⟨25, [(4, .varp 4 0), (5, AV.bool false)], [(4, (false, [AV.str [], AV.str [], AV.bool false]))], [], []⟩) (by kernel_rfl) trivial ?_
    have h := Option.some.inj h
    subst h
    exact awp_ret ⟨[.agg [AV.str [], AV.str [], AV.bool false], AV.bool false], by kernel_rfl, Lw.refl _⟩
def A118.l6 (a0 : (List Tol)) (a1 : (List Taint)) : (Int) → Option (Taint × Bool) := iterL (F118.l6 a1 a0) 4096
def A118 (a0 : (List Tol)) (a1 : (List Taint)) : Option (Taint × Bool) := F118 (A118.l6 a0 a1) a0 a1
theorem d118 (a0 : (List Tol)) (a1 : (List Taint)) (r : (Taint × Bool)) (h : A118 a0 a1 = some r) :
    Det Tryz.prog 118 [AV.lst 3 Tol.av a0, AV.lst 3 Taint.av a1] (.ret (.tuple [Taint.av r.1, AV.bool r.2])) := by
  exact c118 a0 a1 (A118.l6 a0 a1) (rounds_iter _ _) r h


-- strat.bad$1
def F229 (a0 : Pod) (a1 : State) : Option Bool :=
  (A118 a0.Tols (((nodeFind a1.Nodes a0.Node).1).Taints)).bind fun x6_4 => some x6_4.2
/-- ballast/strat.bad$1 -/
theorem c229 (a0 : Pod) (a1 : State) (r : Bool) (h : F229 a0 a1 = some r) :
    Det Tryz.prog 229 [Pod.av a0, .inp a1.cs] (.ret (AV.bool r)) := by
  refine Det.of_le ?_
  refine @calls_of_body Tryz.prog 229 Tryz.f229 _ Tryz.func229 rfl (by kernel_rfl) [.tmp 3] (by rw [Tryz.results229]) 25 Tryz.ntmps229 _ _ _ (by simp only [List.length_cons, List.length_nil]; decide) ?_
  unfold F229 at h
  refine awp_sr kpNone [] [] [1, 2] (cs := []) (st' := ⟨25, [(1, .inp a1.cs), (2, .varp 2 0)], [(2, (false, a0.cs))], [], []⟩) (by kernel_rfl) trivial ?_
  refine awp_sr kpNone [(4, .tuple [Node.av ((nodeFind a1.Nodes a0.Node).1), AV.bool ((nodeFind a1.Nodes a0.Node).2)])] [] [2, 4] (cs := [(Det Tryz.prog 115 [AV.lst 5 Node.av a1.Nodes, AV.str a0.Node] (.ret (.tuple [Node.av ((nodeFind a1.Nodes a0.Node).1), AV.bool ((nodeFind a1.Nodes a0.Node).2)])))]) (st' := ⟨25, [(2, .varp 2 0), (4, .varp 4 0)], [(4, (false, [AV.str (((nodeFind a1.Nodes a0.Node).1).Name), AV.lst 2 Amount.av (((nodeFind a1.Nodes a0.Node).1).Cap), AV.lst 2 Pair.av (((nodeFind a1.Nodes a0.Node).1).Labels), AV.lst 3 Taint.av (((nodeFind a1.Nodes a0.Node).1).Taints), AV.bool (((nodeFind a1.Nodes a0.Node).1).Cordon)])), (2, (false, a0.cs))], [], []⟩) (by kernel_rfl) ⟨d115 a1.Nodes a0.Node, trivial⟩ ?_
  obtain ⟨x6_4, hx6_4, h⟩ := Option.bind_eq_some_iff.1 h
  refine awp_sr kpNone [(4, .tuple [Taint.av x6_4.1, AV.bool x6_4.2])] [] [7] (cs := [(Det Tryz.prog 118 [AV.lst 3 Tol.av a0.Tols, AV.lst 3 Taint.av (((nodeFind a1.Nodes a0.Node).1).Taints)] (.ret (.tuple [Taint.av x6_4.1, AV.bool x6_4.2])))]) (st' := ⟨25, [(7, AV.bool x6_4.2)], [(6, (false, x6_4.1.cs)), (4, (false, [AV.str (((nodeFind a1.Nodes a0.Node).1).Name), AV.lst 2 Amount.av (((nodeFind a1.Nodes a0.Node).1).Cap), AV.lst 2 Pair.av (((nodeFind a1.Nodes a0.Node).1).Labels), AV.lst 3 Taint.av (((nodeFind a1.Nodes a0.Node).1).Taints), AV.bool (((nodeFind a1.Nodes a0.Node).1).Cordon)])), (2, (false, a0.cs))], [], []⟩) (by kernel_rfl) ⟨d118 a0.Tols (((nodeFind a1.Nodes a0.Node).1).Taints) _ hx6_4, trivial⟩ ?_
  refine awp_sr kpNone [] [] [3] (cs := []) (st' := ⟨25, [(3, AV.bool x6_4.2)], [(6, (false, x6_4.1.cs)), (4, (false, [AV.str (((nodeFind a1.Nodes a0.Node).1).Name), AV.lst 2 Amount.av (((nodeFind a1.Nodes a0.Node).1).Cap), AV.lst 2 Pair.av (((nodeFind a1.Nodes a0.Node).1).Labels), AV.lst 3 Taint.av (((nodeFind a1.Nodes a0.Node).1).Taints), AV.bool (((nodeFind a1.Nodes a0.Node).1).Cordon)])), (2, (false, a0.cs))], [], []⟩) (by kernel_rfl) trivial ?_
  have h := Option.some.inj h
  subst h
  exact awp_ret ⟨[AV.bool x6_4.2], by kernel_rfl, Lw.refl _⟩


-- label.Get
def F286.l6 (a0 : (List Pair)) (a1 : Str) (rec6 : (Int) → Option (Str × Bool)) : (Int) → Option (Str × Bool) := fun p6 =>
  if decide (p6 < (List.length a0 : Int)) = true then ((getI a0 p6).bind fun x12_0 => if decide (x12_0.Key = a1) = true then (some (x12_0.Val, true)) else (rec6 (w64 (p6 + (1 : Int))))) else (some ([], false))
def F286 (l6 : (Int) → Option (Str × Bool)) (a0 : (List Pair)) (a1 : Str) : Option (Str × Bool) :=
  l6 0
/-- ballast/label.Get -/
theorem c286 (a0 : (List Pair)) (a1 : Str) (l6 : (Int) → Option (Str × Bool)) (hl6 : Rounds (F286.l6 a0 a1) (l6)) (r : (Str × Bool)) (h : F286 l6 a0 a1 = some r) :
    Det Tryz.prog 286 [AV.lst 2 Pair.av a0, AV.str a1] (.ret (.tuple [AV.str r.1, AV.bool r.2])) := by
  refine Det.of_le ?_
  refine @calls_of_body Tryz.prog 286 Tryz.f286 _ Tryz.func286 rfl (by kernel_rfl) [.tmp 4, .tmp 5] (by rw [Tryz.results286]) 21 Tryz.ntmps286 _ _ _ (by simp only [List.length_cons, List.length_nil]; decide) ?_
  unfold F286 at h
  refine awp_sr kpNone [] [] [0, 1] (cs := []) (st' := ⟨21, [(0, AV.lst 2 Pair.av a0), (1, AV.str a1)], [], [], []⟩) (by kernel_rfl) trivial ?_
  refine awp_seq fun N3 hN3 => ?_
  refine awp_sr kpNone [(1, AV.int (List.length a0 : Int))] [] [1, 8, 9, 10] (cs := [((AV.int (List.length a0 : Int) = .val (.int .i64 (List.length (List.map Pair.av a0) : Int))))]) (st' := ⟨21, [(1, AV.str a1), (8, AV.lst 2 Pair.av a0), (9, AV.int (List.length a0 : Int)), (10, AV.int 0)], [], [], []⟩) (by kernel_rfl) ⟨len_map _ _, trivial⟩ ?_
  refine awp_block ?_
  refine awp_loop ?_
  refine awpL_le (st' := ⟨21, [(1, AV.str a1), (8, AV.lst 2 Pair.av a0), (9, AV.int (List.length a0 : Int)), (10, AV.int 0)], [], [], []⟩) ?_ ?_
  · exact Le.rfl'
  refine awpL_fix hl6 r (fun p6 => ⟨21, [(1, AV.str a1), (8, AV.lst 2 Pair.av a0), (9, AV.int (List.length a0 : Int)), (10, AV.int p6)], [], [], []⟩) (fun rec6 hrec6 p6 h => ?_) 0 h
  unfold F286.l6 at h
  refine awpL_round ?_
  refine awp_sr kpNone [] [] [1, 8, 9, 10, 11] (cs := []) (st' := ⟨21, [(1, AV.str a1), (8, AV.lst 2 Pair.av a0), (9, AV.int (List.length a0 : Int)), (10, AV.int p6), (11, AV.bool (decide (p6 < (List.length a0 : Int))))], [], [], []⟩) (by kernel_rfl) trivial ?_
  refine awp_seq fun N9 hN9 => ?_
  refine awp_cond (t := decide (p6 < (List.length a0 : Int))) rfl (fun hb => ?_) (fun hb => ?_)
  · rw [if_pos hb] at h
    refine awp_skip ?_
    refine hN9 _ ?_
    refine awp_seq fun N10 hN10 => ?_
    refine awp_block ?_
    obtain ⟨x12_0, hx12_0, h⟩ := Option.bind_eq_some_iff.1 h
    refine awp_sr kpNone [(0, Pair.av x12_0)] [] [1, 7, 8, 9, 10] (cs := [(0 ≤ p6), ((List.map Pair.av a0)[Int.toNat p6]? = some (Pair.av x12_0))]) (st' := ⟨21, [(1, AV.str a1), (7, .varp 7 0), (8, AV.lst 2 Pair.av a0), (9, AV.int (List.length a0 : Int)), (10, AV.int p6)], [(7, (false, [AV.str x12_0.Key, AV.str x12_0.Val]))], [], []⟩) (by kernel_rfl) ⟨getI_le hx12_0, getI_map hx12_0 _, trivial⟩ ?_
    refine awp_sr kpNone [] [] [1, 7, 8, 9, 10, 17] (cs := []) (st' := ⟨21, [(1, AV.str a1), (7, .varp 7 0), (8, AV.lst 2 Pair.av a0), (9, AV.int (List.length a0 : Int)), (10, AV.int p6), (17, AV.bool (decide (x12_0.Key = a1)))], [(7, (false, [AV.str x12_0.Key, AV.str x12_0.Val]))], [], []⟩) (by kernel_rfl) trivial ?_
    refine awp_cond (t := decide (x12_0.Key = a1)) rfl (fun hb => ?_) (fun hb => ?_)
    · rw [if_pos hb] at h
      refine awp_sr kpNone [] [] [4, 5] (cs := []) (st' := ⟨21, [(4, AV.str x12_0.Val), (5, AV.bool true)], [(7, (false, [AV.str x12_0.Key, AV.str x12_0.Val]))], [], []⟩) (by kernel_rfl) trivial ?_
      have h := Option.some.inj h
      subst h
      exact awp_ret ⟨[AV.str x12_0.Val, AV.bool true], by kernel_rfl, Lw.refl _⟩
    · rw [if_false hb] at h
      refine awp_skip ?_
      refine hN10 _ ?_
      refine awp_reg kpNone [] [] [1, 8, 9, 10] (cs := []) (st' := ⟨21, [(1, AV.str a1), (8, AV.lst 2 Pair.av a0), (9, AV.int (List.length a0 : Int)), (10, AV.int (w64 (p6 + (1 : Int))))], [(7, (false, [AV.str x12_0.Key, AV.str x12_0.Val]))], [], []⟩) (by kernel_rfl) trivial ?_
      refine awpL_le ?_ (hrec6 _ h)
      exact Le.mk rfl ⟨rfl, .inl rfl, rfl, rfl, trivial⟩ trivial trivial trivial
  · rw [if_false hb] at h
    refine awp_exit ?_
    refine hN3 _ ?_
    refine awp_sr kpNone [] [] [4, 5] (cs := []) (st' := ⟨21, [(4, AV.str []), (5, AV.bool false)], [], [], []⟩) (by kernel_rfl) trivial ?_
    have h := Option.some.inj h
    subst h
    exact awp_ret ⟨[AV.str [], AV.bool false], by kernel_rfl, Lw.refl _⟩
-- {"kind": "tot", "S": "labelGet", "thm": "d286"}
theorem d286 (a0 : List Pair) (a1 : Str) : Det Tryz.prog 286 [AV.lst 2 Pair.av a0, AV.str a1] (.ret (.tuple [AV.str (labelGet a0 a1).1, AV.bool (labelGet a0 a1).2])) := by
  refine Det.len 0 rfl fun hl => c286 a0 a1 _ (rounds_list a0 hl (fun t => some (labelGet t a1)) _ ?_ ?_) _ ?_
  · intro rec
    simp [F286.l6, labelGet]
  · intro rec p x t h0 h1 hx hd hr hw
    simp only [F286.l6, hx, hw, hr, h1, decide_true, if_true, Option.bind_some, labelGet, decide_eq_true_eq]
    split <;> rfl
  · simp [F286]


-- qty.Stop
def F133 (a0 : Int) : Option (Res Unit) :=
  if decide (¬ a0 = (0 : Int)) = true then (some (.stop a0)) else (some (.ret ()))
/-- ballast/qty.Stop -/
theorem c133 (a0 : Int) (r : (Res Unit)) (h : F133 a0 = some r) :
    Det Tryz.prog 133 [AV.int a0] (Res.out 279 (fun r => .tuple []) r) := by
  refine Det.of_le ?_
  refine @calls_of_body Tryz.prog 133 Tryz.f133 _ Tryz.func133 rfl (by kernel_rfl) [] (by rw [Tryz.results133]) 7 Tryz.ntmps133 _ _ _ (by simp only [List.length_cons, List.length_nil]; decide) ?_
  unfold F133 at h
  refine awp_sr kpNone [] [] [0, 3] (cs := []) (st' := ⟨7, [(0, AV.int a0), (3, AV.bool (decide (¬ a0 = (0 : Int))))], [], [], []⟩) (by kernel_rfl) trivial ?_
  refine awp_cond (t := decide (¬ a0 = (0 : Int))) rfl (fun hb => ?_) (fun hb => ?_)
  · rw [if_pos hb] at h
    have h := Option.some.inj h
    subst h
    refine awp_panOp kpNone [] [] 3 (v := AV.iface 279 (.agg [AV.int a0])) (cs := [((AV.iface 279 (.agg [AV.int a0])) = AV.iface 279 (.agg [AV.int a0]))]) (st' := ⟨7, [], [], [], []⟩) (by kernel_rfl) ⟨rfl, trivial⟩ ?_
    exact Lw.refl _
  · rw [if_false hb] at h
    refine awp_skip ?_
    have h := Option.some.inj h
    subst h
    try simp only [thenA, blockA, eq_self, if_true]
    exact (show endQ _ _ _ .normal _ from ⟨[], by kernel_rfl, Lw.refl _⟩)


-- spread.domain
def F217.j10 (a0 : State) (a1 : Str) (a2 : Str) : (Unit) → Option (Res Str) := fun p10 =>
  some (.ret ((labelGet (((nodeFind a0.Nodes a1).1).Labels) a2).1))
def F217 (a0 : State) (a1 : Str) (a2 : Str) : Option (Res Str) :=
  if (!((labelGet (((nodeFind a0.Nodes a1).1).Labels) a2).2)) = true then (thn (F133 10) fun x13_0 => F217.j10 a0 a1 a2 ()) else (F217.j10 a0 a1 a2 ())
/-- ballast/spread.domain -/
theorem c217 (a0 : State) (a1 : Str) (a2 : Str) (r : (Res Str)) (h : F217 a0 a1 a2 = some r) :
    Det Tryz.prog 217 [State.av a0, AV.str a1, AV.str a2] (Res.out 279 (fun r => AV.str r) r) := by
  refine Det.of_le ?_
  refine @calls_of_body Tryz.prog 217 Tryz.f217 _ Tryz.func217 rfl (by kernel_rfl) [.tmp 6] (by rw [Tryz.results217]) 29 Tryz.ntmps217 _ _ _ (by simp only [List.length_cons, List.length_nil]; decide) ?_
  unfold F217 at h
  refine awp_sr kpNone [] [] [1, 2, 3] (cs := []) (st' := ⟨29, [(1, AV.str a1), (2, AV.str a2), (3, .varp 3 0)], [(3, (false, a0.cs))], [], []⟩) (by kernel_rfl) trivial ?_
  refine awp_sr kpNone [(3, .tuple [Node.av ((nodeFind a0.Nodes a1).1), AV.bool ((nodeFind a0.Nodes a1).2)])] [] [2, 7] (cs := [(Det Tryz.prog 115 [AV.lst 5 Node.av a0.Nodes, AV.str a1] (.ret (.tuple [Node.av ((nodeFind a0.Nodes a1).1), AV.bool ((nodeFind a0.Nodes a1).2)])))]) (st' := ⟨29, [(2, AV.str a2), (7, .varp 7 0)], [(7, (false, [AV.str (((nodeFind a0.Nodes a1).1).Name), AV.lst 2 Amount.av (((nodeFind a0.Nodes a1).1).Cap), AV.lst 2 Pair.av (((nodeFind a0.Nodes a1).1).Labels), AV.lst 3 Taint.av (((nodeFind a0.Nodes a1).1).Taints), AV.bool (((nodeFind a0.Nodes a1).1).Cordon)])), (3, (false, a0.cs))], [], []⟩) (by kernel_rfl) ⟨d115 a0.Nodes a1, trivial⟩ ?_
  refine awp_sr kpNone [(3, .tuple [AV.str ((labelGet (((nodeFind a0.Nodes a1).1).Labels) a2).1), AV.bool ((labelGet (((nodeFind a0.Nodes a1).1).Labels) a2).2)])] [] [9, 10] (cs := [(Det Tryz.prog 286 [AV.lst 2 Pair.av (((nodeFind a0.Nodes a1).1).Labels), AV.str a2] (.ret (.tuple [AV.str ((labelGet (((nodeFind a0.Nodes a1).1).Labels) a2).1), AV.bool ((labelGet (((nodeFind a0.Nodes a1).1).Labels) a2).2)])))]) (st' := ⟨29, [(9, AV.str ((labelGet (((nodeFind a0.Nodes a1).1).Labels) a2).1)), (10, AV.bool ((labelGet (((nodeFind a0.Nodes a1).1).Labels) a2).2))], [(7, (false, [AV.str (((nodeFind a0.Nodes a1).1).Name), AV.lst 2 Amount.av (((nodeFind a0.Nodes a1).1).Cap), AV.lst 2 Pair.av (((nodeFind a0.Nodes a1).1).Labels), AV.lst 3 Taint.av (((nodeFind a0.Nodes a1).1).Taints), AV.bool (((nodeFind a0.Nodes a1).1).Cordon)])), (3, (false, a0.cs))], [], []⟩) (by kernel_rfl) ⟨d286 (((nodeFind a0.Nodes a1).1).Labels) a2, trivial⟩ ?_
  refine awp_seq fun N7 hN7 => ?_
  refine awp_sr kpNone [] [] [9, 26] (cs := []) (st' := ⟨29, [(9, AV.str ((labelGet (((nodeFind a0.Nodes a1).1).Labels) a2).1)), (26, AV.bool (!((labelGet (((nodeFind a0.Nodes a1).1).Labels) a2).2)))], [(7, (false, [AV.str (((nodeFind a0.Nodes a1).1).Name), AV.lst 2 Amount.av (((nodeFind a0.Nodes a1).1).Cap), AV.lst 2 Pair.av (((nodeFind a0.Nodes a1).1).Labels), AV.lst 3 Taint.av (((nodeFind a0.Nodes a1).1).Taints), AV.bool (((nodeFind a0.Nodes a1).1).Cordon)])), (3, (false, a0.cs))], [], []⟩) (by kernel_rfl) trivial ?_
  refine awp_to (σ := Unit) (fun p10 => ⟨29, [(9, AV.str ((labelGet (((nodeFind a0.Nodes a1).1).Labels) a2).1))], [(7, (false, [AV.str (((nodeFind a0.Nodes a1).1).Name), AV.lst 2 Amount.av (((nodeFind a0.Nodes a1).1).Cap), AV.lst 2 Pair.av (((nodeFind a0.Nodes a1).1).Labels), AV.lst 3 Taint.av (((nodeFind a0.Nodes a1).1).Taints), AV.bool (((nodeFind a0.Nodes a1).1).Cordon)])), (3, (false, a0.cs))], [], []⟩) (fun p10 => F217.j10 a0 a1 a2 p10 = some r) (fun p10 h => ?_) (fun N10 hJ10 => ?_)
  · unfold F217.j10 at h
    refine hN7 _ ?_
    refine awp_sr kpNone [] [] [6] (cs := []) (st' := ⟨29, [(6, AV.str ((labelGet (((nodeFind a0.Nodes a1).1).Labels) a2).1))], [(7, (false, [AV.str (((nodeFind a0.Nodes a1).1).Name), AV.lst 2 Amount.av (((nodeFind a0.Nodes a1).1).Cap), AV.lst 2 Pair.av (((nodeFind a0.Nodes a1).1).Labels), AV.lst 3 Taint.av (((nodeFind a0.Nodes a1).1).Taints), AV.bool (((nodeFind a0.Nodes a1).1).Cordon)])), (3, (false, a0.cs))], [], []⟩) (by kernel_rfl) trivial ?_
    have h := Option.some.inj h
    subst h
    exact awp_ret ⟨[AV.str ((labelGet (((nodeFind a0.Nodes a1).1).Labels) a2).1)], by kernel_rfl, Lw.refl _⟩
  · refine awp_cond (t := (!((labelGet (((nodeFind a0.Nodes a1).1).Labels) a2).2))) rfl (fun hb => ?_) (fun hb => ?_)
    · rw [if_pos hb] at h
      rcases thn_some h with ⟨e, hx13_0, hr⟩ | ⟨x13_0, hx13_0, h⟩
      · subst hr
        refine awp_panT kpNone [] [] 0 (v := AV.iface 279 (.agg [AV.int e])) (cs := [(Det Tryz.prog 133 [AV.int 10] (.panic (AV.iface 279 (.agg [AV.int e]))))]) (st' := ⟨29, [], [(7, (false, [AV.str (((nodeFind a0.Nodes a1).1).Name), AV.lst 2 Amount.av (((nodeFind a0.Nodes a1).1).Cap), AV.lst 2 Pair.av (((nodeFind a0.Nodes a1).1).Labels), AV.lst 3 Taint.av (((nodeFind a0.Nodes a1).1).Taints), AV.bool (((nodeFind a0.Nodes a1).1).Cordon)])), (3, (false, a0.cs))], [], []⟩) (by kernel_rfl) ⟨c133 10 (.stop e) hx13_0, trivial⟩ ?_
        exact Lw.refl _
      refine awp_reg kpNone [(0, .tuple [])] [] [9] (cs := [(Det Tryz.prog 133 [AV.int 10] (.ret (.tuple [])))]) (st' := ⟨29, [(9, AV.str ((labelGet (((nodeFind a0.Nodes a1).1).Labels) a2).1))], [(7, (false, [AV.str (((nodeFind a0.Nodes a1).1).Name), AV.lst 2 Amount.av (((nodeFind a0.Nodes a1).1).Cap), AV.lst 2 Pair.av (((nodeFind a0.Nodes a1).1).Labels), AV.lst 3 Taint.av (((nodeFind a0.Nodes a1).1).Taints), AV.bool (((nodeFind a0.Nodes a1).1).Cordon)])), (3, (false, a0.cs))], [], []⟩) (by kernel_rfl) ⟨c133 10 (.ret x13_0) hx13_0, trivial⟩ ?_
      exact hJ10 () _ h (Le.rfl')
    · rw [if_false hb] at h
      refine awp_skip ?_
      exact hJ10 () _ h (Le.mk rfl ⟨rfl, trivial⟩ ⟨⟨rfl, ⟨rfl, .inl rfl, .inl rfl, .inl rfl, rfl, trivial⟩⟩, ⟨rfl, ⟨.inl rfl, .inl rfl, .inl rfl, trivial⟩⟩, trivial⟩ trivial trivial)


end Go.Proofs.Eng
