/- Printed walks and contracts. -/
import Derived.Test.YtdolhcmhdjmoeaaGreatDoorStrT7
set_option linter.unusedSimpArgs false
set_option linter.unusedVariables false
set_option maxRecDepth 100000
namespace Go.Proofs.Eng
open Go Go.Proofs Go.Sort
-- ballastlaw4.Of
def F107.l8 (a0 : (List Pair)) (rec8 : (List Pair × Int) → Option (List Pair)) : (List Pair × Int) → Option (List Pair) := fun p8 =>
  if decide (p8.2 < (List.length a0 : Int)) = true then ((getI a0 p8.2).bind fun x13_3 => (getI a0 p8.2).bind fun x13_8 => if fits 32 (List.length (p8.1 ++ [(⟨x13_3.Key, x13_8.Val⟩ : Pair)])) then (rec8 (p8.1 ++ [(⟨x13_3.Key, x13_8.Val⟩ : Pair)], w64 (p8.2 + (1 : Int)))) else none) else (some p8.1)
def F107 (l8 : (List Pair × Int) → Option (List Pair)) (a0 : (List Pair)) : Option (List Pair) :=
  l8 (([] : List Pair), 0)
/-- ballast/ballastlaw4.Of -/
theorem c107 (a0 : (List Pair)) (l8 : (List Pair × Int) → Option (List Pair)) (hl8 : Rounds (F107.l8 a0) (l8)) (r : (List Pair)) (h : F107 l8 a0 = some r) :
    Det Tryz.prog 107 [AV.lst 2 Pair.av a0] (.ret (AV.lst 2 Pair.av r)) := by
  refine Det.of_le ?_
  refine @calls_of_body Tryz.prog 107 Tryz.f107 _ Tryz.func107 rfl (by kernel_rfl) [.tmp 2] (by rw [Tryz.results107]) 26 Tryz.ntmps107 _ _ _ (by simp only [List.length_cons, List.length_nil]; decide) ?_
  unfold F107 at h
  refine awp_sr kpNone [] [] [0] (cs := []) (st' := ⟨26, [(0, AV.lst 2 Pair.av a0)], [], [], []⟩) (by kernel_rfl) trivial ?_
  refine awp_sr kpNone [] [] [0, 3] (cs := []) (st' := ⟨26, [(0, AV.lst 2 Pair.av a0), (3, .nils)], [], [], []⟩) (by kernel_rfl) trivial ?_
  refine awp_seq fun N5 hN5 => ?_
  refine awp_sr kpNone [] [] [0, 3, 4] (cs := []) (st' := ⟨26, [(0, AV.lst 2 Pair.av a0), (3, .nils), (4, AV.int 0)], [], [], []⟩) (by kernel_rfl) trivial ?_
  refine awp_block ?_
  refine awp_loop ?_
  refine awpL_le (st' := ⟨26, [(0, AV.lst 2 Pair.av a0), (3, .slice (.own 24) 2 (List.map Pair.av ([] : List Pair))), (4, AV.int 0)], [], [], [(24, (273, 2, List.length (List.map Pair.av ([] : List Pair))))]⟩) ?_ ?_
  · exact Le.mk rfl ⟨.inl rfl, .inr ⟨rfl, rfl, rfl⟩, rfl, trivial⟩ trivial ⟨⟨rfl, by decide⟩, trivial⟩ trivial
  refine awpL_fix hl8 r (fun p8 => ⟨26, [(0, AV.lst 2 Pair.av a0), (3, .slice (.own 24) 2 (List.map Pair.av p8.1)), (4, AV.int p8.2)], [], [], [(24, (273, 2, List.length (List.map Pair.av p8.1)))]⟩) (fun rec8 hrec8 p8 h => ?_) (([] : List Pair), 0) h
  unfold F107.l8 at h
  refine awpL_round ?_
  refine awp_seq fun N9 hN9 => ?_
  refine awp_sr kpNone [(2, AV.int (List.length a0 : Int))] [] [0, 3, 4, 8] (cs := [((AV.int (List.length a0 : Int) = .val (.int .i64 (List.length (List.map Pair.av a0) : Int))))]) (st' := ⟨26, [(0, AV.lst 2 Pair.av a0), (3, .slice (.own 24) 2 (List.map Pair.av p8.1)), (4, AV.int p8.2), (8, AV.bool (decide (p8.2 < (List.length a0 : Int))))], [], [], [(24, (273, 2, List.length (List.map Pair.av p8.1)))]⟩) (by kernel_rfl) ⟨len_map _ _, trivial⟩ ?_
  refine awp_cond (t := decide (p8.2 < (List.length a0 : Int))) rfl (fun hb => ?_) (fun hb => ?_)
  · rw [if_pos hb] at h
    refine awp_skip ?_
    refine hN9 _ ?_
    refine awp_seq fun N12 hN12 => ?_
    refine awp_block ?_
    obtain ⟨x13_3, hx13_3, h⟩ := Option.bind_eq_some_iff.1 h
    obtain ⟨x13_8, hx13_8, h⟩ := Option.bind_eq_some_iff.1 h
    obtain ⟨hp13_13, h⟩ := guardP h
    refine awp_regD mixedTryz kpNone [(3, Pair.av x13_3), (8, Pair.av x13_8), (13, AV.lst 2 Pair.av (p8.1 ++ [(⟨x13_3.Key, x13_8.Val⟩ : Pair)]))] [] [0, 3, 4] (by kernel_rfl) (cs := [(0 ≤ p8.2), ((List.map Pair.av a0)[Int.toNat p8.2]? = some (Pair.av x13_3)), (0 ≤ p8.2), ((List.map Pair.av a0)[Int.toNat p8.2]? = some (Pair.av x13_8)), (List.length (List.map Pair.av p8.1) = List.length (List.map Pair.av p8.1)), (List.length (List.map Pair.av (p8.1 ++ [(⟨x13_3.Key, x13_8.Val⟩ : Pair)])) * 32 ≤ 140737488355328), (List.length (List.map Pair.av (p8.1 ++ [(⟨x13_3.Key, x13_8.Val⟩ : Pair)])) ≤ 140737488355328), (List.map Pair.av p8.1 ++ List.map Pair.av [(⟨x13_3.Key, x13_8.Val⟩ : Pair)] = List.map Pair.av (p8.1 ++ [(⟨x13_3.Key, x13_8.Val⟩ : Pair)]))]) (st' := ⟨26, [(0, AV.lst 2 Pair.av a0), (3, .slice (.own 24) 2 (List.map Pair.av (p8.1 ++ [(⟨x13_3.Key, x13_8.Val⟩ : Pair)]))), (4, AV.int p8.2)], [], [], [(24, (273, 2, List.length (List.map Pair.av (p8.1 ++ [(⟨x13_3.Key, x13_8.Val⟩ : Pair)])))), (23, (273, 2, 1))]⟩) (by kernel_rfl) ⟨getI_le hx13_3, getI_map hx13_3 _, getI_le hx13_8, getI_map hx13_8 _, by simp only [List.length_map, List.length_cons, List.length_nil], len_mul _ _ _ _ hp13_13.1, len_ge _ _ hp13_13.2, lst_app _ _ _, trivial⟩ ?_
    refine hN12 _ ?_
    refine awp_reg kpNone [] [] [0, 3, 4] (cs := []) (st' := ⟨26, [(0, AV.lst 2 Pair.av a0), (3, .slice (.own 24) 2 (List.map Pair.av (p8.1 ++ [(⟨x13_3.Key, x13_8.Val⟩ : Pair)]))), (4, AV.int (w64 (p8.2 + (1 : Int))))], [], [], [(24, (273, 2, List.length (List.map Pair.av (p8.1 ++ [(⟨x13_3.Key, x13_8.Val⟩ : Pair)])))), (23, (273, 2, 1))]⟩) (by kernel_rfl) trivial ?_
    refine awpL_le ?_ (hrec8 _ h)
    exact Le.mk rfl ⟨.inl rfl, .inl ⟨rfl, rfl⟩, rfl, trivial⟩ trivial ⟨rfl, trivial⟩ trivial
  · rw [if_false hb] at h
    refine awp_exit ?_
    refine hN5 _ ?_
    refine awp_sr kpNone [] [] [2] (cs := []) (st' := ⟨26, [(2, .slice (.own 24) 2 (List.map Pair.av p8.1))], [], [], [(24, (273, 2, List.length (List.map Pair.av p8.1)))]⟩) (by kernel_rfl) trivial ?_
    have h := Option.some.inj h
    subst h
    exact awp_ret ⟨[.slice (.own 24) 2 (List.map Pair.av p8.1)], by kernel_rfl, Lw.refl _⟩
-- {"kind": "opt", "S": "copied 32", "thm": "d107"}
theorem d107 (a0 : List Pair) (r : List Pair) (h : copied 32 a0 = some r) : Det Tryz.prog 107 [AV.lst 2 Pair.av a0] (.ret (AV.lst 2 Pair.av r)) := by
  refine Det.len 0 rfl fun hl => c107 a0 _ (rounds_fold a0 hl (fun b t => copied 32 (b ++ t)) _ ?_ ?_) _ ?_
  · intro rec b r h
    rw [List.append_nil] at h
    obtain ⟨rfl, _⟩ := copied_some h
    simp [F107.l8]
  · intro rec p b x t r h0 h1 hx hr hw h
    obtain ⟨h2, h3⟩ := copied_step h
    simp only [F107.l8, hx, hw, h1, decide_true, if_true, Option.bind_some]
    rw [if_pos h2]
    exact hr _ _ h3
  · simp [F107, h]


-- ballastlaw5.Of
def F284.l8 (a0 : (List Taint)) (rec8 : (List Taint × Int) → Option (List Taint)) : (List Taint × Int) → Option (List Taint) := fun p8 =>
  if decide (p8.2 < (List.length a0 : Int)) = true then ((getI a0 p8.2).bind fun x13_3 => (getI a0 p8.2).bind fun x13_8 => (getI a0 p8.2).bind fun x13_13 => if fits 40 (List.length (p8.1 ++ [(⟨x13_3.Key, x13_8.Val, x13_13.Hard⟩ : Taint)])) then (rec8 (p8.1 ++ [(⟨x13_3.Key, x13_8.Val, x13_13.Hard⟩ : Taint)], w64 (p8.2 + (1 : Int)))) else none) else (some p8.1)
def F284 (l8 : (List Taint × Int) → Option (List Taint)) (a0 : (List Taint)) : Option (List Taint) :=
  l8 (([] : List Taint), 0)
/-- ballast/ballastlaw5.Of -/
theorem c284 (a0 : (List Taint)) (l8 : (List Taint × Int) → Option (List Taint)) (hl8 : Rounds (F284.l8 a0) (l8)) (r : (List Taint)) (h : F284 l8 a0 = some r) :
    Det Tryz.prog 284 [AV.lst 3 Taint.av a0] (.ret (AV.lst 3 Taint.av r)) := by
  refine Det.of_le ?_
  refine @calls_of_body Tryz.prog 284 Tryz.f284 _ Tryz.func284 rfl (by kernel_rfl) [.tmp 2] (by rw [Tryz.results284]) 31 Tryz.ntmps284 _ _ _ (by simp only [List.length_cons, List.length_nil]; decide) ?_
  unfold F284 at h
  refine awp_sr kpNone [] [] [0] (cs := []) (st' := ⟨31, [(0, AV.lst 3 Taint.av a0)], [], [], []⟩) (by kernel_rfl) trivial ?_
  refine awp_sr kpNone [] [] [0, 3] (cs := []) (st' := ⟨31, [(0, AV.lst 3 Taint.av a0), (3, .nils)], [], [], []⟩) (by kernel_rfl) trivial ?_
  refine awp_seq fun N5 hN5 => ?_
  refine awp_sr kpNone [] [] [0, 3, 4] (cs := []) (st' := ⟨31, [(0, AV.lst 3 Taint.av a0), (3, .nils), (4, AV.int 0)], [], [], []⟩) (by kernel_rfl) trivial ?_
  refine awp_block ?_
  refine awp_loop ?_
  refine awpL_le (st' := ⟨31, [(0, AV.lst 3 Taint.av a0), (3, .slice (.own 29) 3 (List.map Taint.av ([] : List Taint))), (4, AV.int 0)], [], [], [(29, (194, 3, List.length (List.map Taint.av ([] : List Taint))))]⟩) ?_ ?_
  · exact Le.mk rfl ⟨.inl rfl, .inr ⟨rfl, rfl, rfl⟩, rfl, trivial⟩ trivial ⟨⟨rfl, by decide⟩, trivial⟩ trivial
  refine awpL_fix hl8 r (fun p8 => ⟨31, [(0, AV.lst 3 Taint.av a0), (3, .slice (.own 29) 3 (List.map Taint.av p8.1)), (4, AV.int p8.2)], [], [], [(29, (194, 3, List.length (List.map Taint.av p8.1)))]⟩) (fun rec8 hrec8 p8 h => ?_) (([] : List Taint), 0) h
  unfold F284.l8 at h
  refine awpL_round ?_
  refine awp_seq fun N9 hN9 => ?_
  refine awp_sr kpNone [(2, AV.int (List.length a0 : Int))] [] [0, 3, 4, 8] (cs := [((AV.int (List.length a0 : Int) = .val (.int .i64 (List.length (List.map Taint.av a0) : Int))))]) (st' := ⟨31, [(0, AV.lst 3 Taint.av a0), (3, .slice (.own 29) 3 (List.map Taint.av p8.1)), (4, AV.int p8.2), (8, AV.bool (decide (p8.2 < (List.length a0 : Int))))], [], [], [(29, (194, 3, List.length (List.map Taint.av p8.1)))]⟩) (by kernel_rfl) ⟨len_map _ _, trivial⟩ ?_
  refine awp_cond (t := decide (p8.2 < (List.length a0 : Int))) rfl (fun hb => ?_) (fun hb => ?_)
  · rw [if_pos hb] at h
    refine awp_skip ?_
    refine hN9 _ ?_
    refine awp_seq fun N12 hN12 => ?_
    refine awp_block ?_
    obtain ⟨x13_3, hx13_3, h⟩ := Option.bind_eq_some_iff.1 h
    obtain ⟨x13_8, hx13_8, h⟩ := Option.bind_eq_some_iff.1 h
    obtain ⟨x13_13, hx13_13, h⟩ := Option.bind_eq_some_iff.1 h
    obtain ⟨hp13_18, h⟩ := guardP h
    refine awp_regD mixedTryz kpNone [(3, Taint.av x13_3), (8, Taint.av x13_8), (13, Taint.av x13_13), (18, AV.lst 3 Taint.av (p8.1 ++ [(⟨x13_3.Key, x13_8.Val, x13_13.Hard⟩ : Taint)]))] [] [0, 3, 4] (by kernel_rfl) (cs := [(0 ≤ p8.2), ((List.map Taint.av a0)[Int.toNat p8.2]? = some (Taint.av x13_3)), (0 ≤ p8.2), ((List.map Taint.av a0)[Int.toNat p8.2]? = some (Taint.av x13_8)), (0 ≤ p8.2), ((List.map Taint.av a0)[Int.toNat p8.2]? = some (Taint.av x13_13)), (List.length (List.map Taint.av p8.1) = List.length (List.map Taint.av p8.1)), (List.length (List.map Taint.av (p8.1 ++ [(⟨x13_3.Key, x13_8.Val, x13_13.Hard⟩ : Taint)])) * 40 ≤ 140737488355328), (List.length (List.map Taint.av (p8.1 ++ [(⟨x13_3.Key, x13_8.Val, x13_13.Hard⟩ : Taint)])) ≤ 140737488355328), (List.map Taint.av p8.1 ++ List.map Taint.av [(⟨x13_3.Key, x13_8.Val, x13_13.Hard⟩ : Taint)] = List.map Taint.av (p8.1 ++ [(⟨x13_3.Key, x13_8.Val, x13_13.Hard⟩ : Taint)]))]) (st' := ⟨31, [(0, AV.lst 3 Taint.av a0), (3, .slice (.own 29) 3 (List.map Taint.av (p8.1 ++ [(⟨x13_3.Key, x13_8.Val, x13_13.Hard⟩ : Taint)]))), (4, AV.int p8.2)], [], [], [(29, (194, 3, List.length (List.map Taint.av (p8.1 ++ [(⟨x13_3.Key, x13_8.Val, x13_13.Hard⟩ : Taint)])))), (28, (194, 3, 1))]⟩) (by kernel_rfl) ⟨getI_le hx13_3, getI_map hx13_3 _, getI_le hx13_8, getI_map hx13_8 _, getI_le hx13_13, getI_map hx13_13 _, by simp only [List.length_map, List.length_cons, List.length_nil], len_mul _ _ _ _ hp13_18.1, len_ge _ _ hp13_18.2, lst_app _ _ _, trivial⟩ ?_
    refine hN12 _ ?_
    refine awp_reg kpNone [] [] [0, 3, 4] (cs := []) (st' := ⟨31, [(0, AV.lst 3 Taint.av a0), (3, .slice (.own 29) 3 (List.map Taint.av (p8.1 ++ [(⟨x13_3.Key, x13_8.Val, x13_13.Hard⟩ : Taint)]))), (4, AV.int (w64 (p8.2 + (1 : Int))))], [], [], [(29, (194, 3, List.length (List.map Taint.av (p8.1 ++ [(⟨x13_3.Key, x13_8.Val, x13_13.Hard⟩ : Taint)])))), (28, (194, 3, 1))]⟩) (by kernel_rfl) trivial ?_
    refine awpL_le ?_ (hrec8 _ h)
    exact Le.mk rfl ⟨.inl rfl, .inl ⟨rfl, rfl⟩, rfl, trivial⟩ trivial ⟨rfl, trivial⟩ trivial
  · rw [if_false hb] at h
    refine awp_exit ?_
    refine hN5 _ ?_
    refine awp_sr kpNone [] [] [2] (cs := []) (st' := ⟨31, [(2, .slice (.own 29) 3 (List.map Taint.av p8.1))], [], [], [(29, (194, 3, List.length (List.map Taint.av p8.1)))]⟩) (by kernel_rfl) trivial ?_
    have h := Option.some.inj h
    subst h
    exact awp_ret ⟨[.slice (.own 29) 3 (List.map Taint.av p8.1)], by kernel_rfl, Lw.refl _⟩
-- {"kind": "opt", "S": "copied 40", "thm": "d284"}
theorem d284 (a0 : List Taint) (r : List Taint) (h : copied 40 a0 = some r) : Det Tryz.prog 284 [AV.lst 3 Taint.av a0] (.ret (AV.lst 3 Taint.av r)) := by
  refine Det.len 0 rfl fun hl => c284 a0 _ (rounds_fold a0 hl (fun b t => copied 40 (b ++ t)) _ ?_ ?_) _ ?_
  · intro rec b r h
    rw [List.append_nil] at h
    obtain ⟨rfl, _⟩ := copied_some h
    simp [F284.l8]
  · intro rec p b x t r h0 h1 hx hr hw h
    obtain ⟨h2, h3⟩ := copied_step h
    simp only [F284.l8, hx, hw, h1, decide_true, if_true, Option.bind_some]
    rw [if_pos h2]
    exact hr _ _ h3
  · simp [F284, h]


-- ballastlaw6.Of
def F209 (a0 : Node) : Option Node :=
  (copied 24 a0.Cap).bind fun x4_4 => (copied 32 a0.Labels).bind fun x4_7 => (copied 40 a0.Taints).bind fun x4_10 => some (⟨a0.Name, x4_4, x4_7, x4_10, a0.Cordon⟩ : Node)
/-- ballast/ballastlaw6.Of -/
theorem c209 (a0 : Node) (r : Node) (h : F209 a0 = some r) :
    Det Tryz.prog 209 [Node.av a0] (.ret (Node.av r)) := by
  refine Det.of_le ?_
  refine @calls_of_body Tryz.prog 209 Tryz.f209 _ Tryz.func209 rfl (by kernel_rfl) [.cell 2 190] (by rw [Tryz.results209]) 17 Tryz.ntmps209 _ _ _ (by simp only [List.length_cons, List.length_nil]; decide) ?_
  unfold F209 at h
  refine awp_sr kpNone [] [] [1, 2] (cs := []) (st' := ⟨17, [(1, .varp 1 0), (2, .varp 2 0)], [(2, (false, [AV.str [], .nils, .nils, .nils, AV.bool false])), (1, (false, a0.cs))], [], []⟩) (by kernel_rfl) trivial ?_
  refine awp_seq fun N3 hN3 => ?_
  obtain ⟨x4_4, hx4_4, h⟩ := Option.bind_eq_some_iff.1 h
  obtain ⟨x4_7, hx4_7, h⟩ := Option.bind_eq_some_iff.1 h
  obtain ⟨x4_10, hx4_10, h⟩ := Option.bind_eq_some_iff.1 h
  refine awp_regD mixedTryz kpNone [(4, AV.lst 2 Amount.av x4_4), (7, AV.lst 2 Pair.av x4_7), (10, AV.lst 3 Taint.av x4_10)] [] [2] (by kernel_rfl) (cs := [(Det Tryz.prog 58 [AV.lst 2 Amount.av a0.Cap] (.ret (AV.lst 2 Amount.av x4_4))), (Det Tryz.prog 107 [AV.lst 2 Pair.av a0.Labels] (.ret (AV.lst 2 Pair.av x4_7))), (Det Tryz.prog 284 [AV.lst 3 Taint.av a0.Taints] (.ret (AV.lst 3 Taint.av x4_10)))]) (st' := ⟨17, [(2, .varp 2 0)], [(2, (false, [AV.str a0.Name, AV.lst 2 Amount.av x4_4, AV.lst 2 Pair.av x4_7, AV.lst 3 Taint.av x4_10, AV.bool a0.Cordon])), (1, (false, a0.cs))], [], []⟩) (by kernel_rfl) ⟨d58 a0.Cap _ hx4_4, d107 a0.Labels _ hx4_7, d284 a0.Taints _ hx4_10, trivial⟩ ?_
  refine hN3 _ ?_
  have h := Option.some.inj h
  subst h
  exact awp_ret ⟨[.agg [AV.str a0.Name, AV.lst 2 Amount.av x4_4, AV.lst 2 Pair.av x4_7, AV.lst 3 Taint.av x4_10, AV.bool a0.Cordon]], by kernel_rfl, Lw.refl _⟩
-- {"kind": "opt", "S": "keep Node.ok", "thm": "d209"}
theorem d209 (a0 r : Node) (h : keep Node.ok a0 = some r) : Det Tryz.prog 209 [Node.av a0] (.ret (Node.av r)) := by
  refine c209 a0 _ ?_
  obtain ⟨rfl, h⟩ := keep_some h
  simp only [Node.ok, Bool.and_eq_true, decide_eq_true_eq] at h
  simp only [F209]
  rw [copied_of h.1.1, Option.bind_some, copied_of h.1.2, Option.bind_some, copied_of h.2, Option.bind_some]


-- ballastlaw6.OfAll
def F110.l8 (a0 : (List Node)) (rec8 : (List Node × Int) → Option (List Node)) : (List Node × Int) → Option (List Node) := fun p8 =>
  if decide (p8.2 < (List.length a0 : Int)) = true then ((getI a0 p8.2).bind fun x13_3 => (keep Node.ok x13_3).bind fun x13_5 => if fits 96 (List.length (p8.1 ++ [x13_5])) then (rec8 (p8.1 ++ [x13_5], w64 (p8.2 + (1 : Int)))) else none) else (some p8.1)
def F110 (l8 : (List Node × Int) → Option (List Node)) (a0 : (List Node)) : Option (List Node) :=
  l8 (([] : List Node), 0)
/-- ballast/ballastlaw6.OfAll -/
theorem c110 (a0 : (List Node)) (l8 : (List Node × Int) → Option (List Node)) (hl8 : Rounds (F110.l8 a0) (l8)) (r : (List Node)) (h : F110 l8 a0 = some r) :
    Det Tryz.prog 110 [AV.lst 5 Node.av a0] (.ret (AV.lst 5 Node.av r)) := by
  refine Det.of_le ?_
  refine @calls_of_body Tryz.prog 110 Tryz.f110 _ Tryz.func110 rfl (by kernel_rfl) [.tmp 2] (by rw [Tryz.results110]) 20 Tryz.ntmps110 _ _ _ (by simp only [List.length_cons, List.length_nil]; decide) ?_
  unfold F110 at h
  refine awp_sr kpNone [] [] [0] (cs := []) (st' := ⟨20, [(0, AV.lst 5 Node.av a0)], [], [], []⟩) (by kernel_rfl) trivial ?_
  refine awp_sr kpNone [] [] [0, 3] (cs := []) (st' := ⟨20, [(0, AV.lst 5 Node.av a0), (3, .nils)], [], [], []⟩) (by kernel_rfl) trivial ?_
  refine awp_seq fun N5 hN5 => ?_
  refine awp_sr kpNone [] [] [0, 3, 4] (cs := []) (st' := ⟨20, [(0, AV.lst 5 Node.av a0), (3, .nils), (4, AV.int 0)], [], [], []⟩) (by kernel_rfl) trivial ?_
  refine awp_block ?_
  refine awp_loop ?_
  refine awpL_le (st' := ⟨20, [(0, AV.lst 5 Node.av a0), (3, .slice (.own 18) 5 (List.map Node.av ([] : List Node))), (4, AV.int 0)], [], [], [(18, (190, 5, List.length (List.map Node.av ([] : List Node))))]⟩) ?_ ?_
  · exact Le.mk rfl ⟨.inl rfl, .inr ⟨rfl, rfl, rfl⟩, rfl, trivial⟩ trivial ⟨⟨rfl, by decide⟩, trivial⟩ trivial
  refine awpL_fix hl8 r (fun p8 => ⟨20, [(0, AV.lst 5 Node.av a0), (3, .slice (.own 18) 5 (List.map Node.av p8.1)), (4, AV.int p8.2)], [], [], [(18, (190, 5, List.length (List.map Node.av p8.1)))]⟩) (fun rec8 hrec8 p8 h => ?_) (([] : List Node), 0) h
  unfold F110.l8 at h
  refine awpL_round ?_
  refine awp_seq fun N9 hN9 => ?_
  refine awp_sr kpNone [(2, AV.int (List.length a0 : Int))] [] [0, 3, 4, 8] (cs := [((AV.int (List.length a0 : Int) = .val (.int .i64 (List.length (List.map Node.av a0) : Int))))]) (st' := ⟨20, [(0, AV.lst 5 Node.av a0), (3, .slice (.own 18) 5 (List.map Node.av p8.1)), (4, AV.int p8.2), (8, AV.bool (decide (p8.2 < (List.length a0 : Int))))], [], [], [(18, (190, 5, List.length (List.map Node.av p8.1)))]⟩) (by kernel_rfl) ⟨len_map _ _, trivial⟩ ?_
  refine awp_cond (t := decide (p8.2 < (List.length a0 : Int))) rfl (fun hb => ?_) (fun hb => ?_)
  · rw [if_pos hb] at h
    refine awp_skip ?_
    refine hN9 _ ?_
    refine awp_seq fun N12 hN12 => ?_
    refine awp_block ?_
    obtain ⟨x13_3, hx13_3, h⟩ := Option.bind_eq_some_iff.1 h
    obtain ⟨x13_5, hx13_5, h⟩ := Option.bind_eq_some_iff.1 h
    obtain ⟨hp13_7, h⟩ := guardP h
    refine awp_reg kpNone [(3, Node.av x13_3), (5, Node.av x13_5), (7, AV.lst 5 Node.av (p8.1 ++ [x13_5]))] [] [0, 3, 4] (cs := [(0 ≤ p8.2), ((List.map Node.av a0)[Int.toNat p8.2]? = some (Node.av x13_3)), (Det Tryz.prog 209 [Node.av x13_3] (.ret (Node.av x13_5))), (List.length (List.map Node.av p8.1) = List.length (List.map Node.av p8.1)), (List.length (List.map Node.av (p8.1 ++ [x13_5])) * 96 ≤ 140737488355328), (List.length (List.map Node.av (p8.1 ++ [x13_5])) ≤ 140737488355328), (List.map Node.av p8.1 ++ List.map Node.av [x13_5] = List.map Node.av (p8.1 ++ [x13_5]))]) (st' := ⟨20, [(0, AV.lst 5 Node.av a0), (3, .slice (.own 18) 5 (List.map Node.av (p8.1 ++ [x13_5]))), (4, AV.int p8.2)], [], [], [(18, (190, 5, List.length (List.map Node.av (p8.1 ++ [x13_5])))), (17, (190, 5, 1))]⟩) (by kernel_rfl) ⟨getI_le hx13_3, getI_map hx13_3 _, d209 x13_3 _ hx13_5, by simp only [List.length_map, List.length_cons, List.length_nil], len_mul _ _ _ _ hp13_7.1, len_ge _ _ hp13_7.2, lst_app _ _ _, trivial⟩ ?_
    refine hN12 _ ?_
    refine awp_reg kpNone [] [] [0, 3, 4] (cs := []) (st' := ⟨20, [(0, AV.lst 5 Node.av a0), (3, .slice (.own 18) 5 (List.map Node.av (p8.1 ++ [x13_5]))), (4, AV.int (w64 (p8.2 + (1 : Int))))], [], [], [(18, (190, 5, List.length (List.map Node.av (p8.1 ++ [x13_5])))), (17, (190, 5, 1))]⟩) (by kernel_rfl) trivial ?_
    refine awpL_le ?_ (hrec8 _ h)
    exact Le.mk rfl ⟨.inl rfl, .inl ⟨rfl, rfl⟩, rfl, trivial⟩ trivial ⟨rfl, trivial⟩ trivial
  · rw [if_false hb] at h
    refine awp_exit ?_
    refine hN5 _ ?_
    refine awp_sr kpNone [] [] [2] (cs := []) (st' := ⟨20, [(2, .slice (.own 18) 5 (List.map Node.av p8.1))], [], [], [(18, (190, 5, List.length (List.map Node.av p8.1)))]⟩) (by kernel_rfl) trivial ?_
    have h := Option.some.inj h
    subst h
    exact awp_ret ⟨[.slice (.own 18) 5 (List.map Node.av p8.1)], by kernel_rfl, Lw.refl _⟩
-- {"kind": "opt", "S": "keepAll 96 Node.ok", "thm": "d110"}
theorem d110 (a0 r : List Node) (h : keepAll 96 Node.ok a0 = some r) : Det Tryz.prog 110 [AV.lst 5 Node.av a0] (.ret (AV.lst 5 Node.av r)) := by
  refine Det.len 0 rfl fun hl => c110 a0 _ (rounds_fold a0 hl (fun b t => keepL 96 Node.ok b t) _ ?_ ?_) _ ?_
  · intro rec b r h
    obtain ⟨rfl, _⟩ := keepL_some h
    simp [F110.l8]
  · intro rec p b x t r h0 h1 hx hr hw h
    obtain ⟨h2, h3, h4⟩ := keepL_step h
    simp only [F110.l8, hx, hw, h1, h2, decide_true, if_true, Option.bind_some]
    rw [if_pos h3]
    exact hr _ _ h4
  · obtain ⟨rfl, h1, h2⟩ := keepAll_some h
    have h1' : r.length * 96 ≤ 140737488355328 ∧ r.length ≤ 140737488355328 := h1
    simp [F110, keepL, h1', h2]


-- ballastlaw4.OfSel
def F108.l8 (a0 : (List Term)) (rec8 : (List Term × Int) → Option (List Term)) : (List Term × Int) → Option (List Term) := fun p8 =>
  if decide (p8.2 < (List.length a0 : Int)) = true then ((getI a0 p8.2).bind fun x13_3 => (getI a0 p8.2).bind fun x13_8 => (getI a0 p8.2).bind fun x13_13 => if fits 40 (List.length (p8.1 ++ [(⟨x13_3.Op, x13_8.Key, x13_13.Val⟩ : Term)])) then (rec8 (p8.1 ++ [(⟨x13_3.Op, x13_8.Key, x13_13.Val⟩ : Term)], w64 (p8.2 + (1 : Int)))) else none) else (some p8.1)
def F108 (l8 : (List Term × Int) → Option (List Term)) (a0 : (List Term)) : Option (List Term) :=
  l8 (([] : List Term), 0)
/-- ballast/ballastlaw4.OfSel -/
theorem c108 (a0 : (List Term)) (l8 : (List Term × Int) → Option (List Term)) (hl8 : Rounds (F108.l8 a0) (l8)) (r : (List Term)) (h : F108 l8 a0 = some r) :
    Det Tryz.prog 108 [AV.lst 3 Term.av a0] (.ret (AV.lst 3 Term.av r)) := by
  refine Det.of_le ?_
  refine @calls_of_body Tryz.prog 108 Tryz.f108 _ Tryz.func108 rfl (by kernel_rfl) [.tmp 2] (by rw [Tryz.results108]) 31 Tryz.ntmps108 _ _ _ (by simp only [List.length_cons, List.length_nil]; decide) ?_
  unfold F108 at h
  refine awp_sr kpNone [] [] [0] (cs := []) (st' := ⟨31, [(0, AV.lst 3 Term.av a0)], [], [], []⟩) (by kernel_rfl) trivial ?_
  refine awp_sr kpNone [] [] [0, 3] (cs := []) (st' := ⟨31, [(0, AV.lst 3 Term.av a0), (3, .nils)], [], [], []⟩) (by kernel_rfl) trivial ?_
  refine awp_seq fun N5 hN5 => ?_
  refine awp_sr kpNone [] [] [0, 3, 4] (cs := []) (st' := ⟨31, [(0, AV.lst 3 Term.av a0), (3, .nils), (4, AV.int 0)], [], [], []⟩) (by kernel_rfl) trivial ?_
  refine awp_block ?_
  refine awp_loop ?_
  refine awpL_le (st' := ⟨31, [(0, AV.lst 3 Term.av a0), (3, .slice (.own 29) 3 (List.map Term.av ([] : List Term))), (4, AV.int 0)], [], [], [(29, (274, 3, List.length (List.map Term.av ([] : List Term))))]⟩) ?_ ?_
  · exact Le.mk rfl ⟨.inl rfl, .inr ⟨rfl, rfl, rfl⟩, rfl, trivial⟩ trivial ⟨⟨rfl, by decide⟩, trivial⟩ trivial
  refine awpL_fix hl8 r (fun p8 => ⟨31, [(0, AV.lst 3 Term.av a0), (3, .slice (.own 29) 3 (List.map Term.av p8.1)), (4, AV.int p8.2)], [], [], [(29, (274, 3, List.length (List.map Term.av p8.1)))]⟩) (fun rec8 hrec8 p8 h => ?_) (([] : List Term), 0) h
  unfold F108.l8 at h
  refine awpL_round ?_
  refine awp_seq fun N9 hN9 => ?_
  refine awp_sr kpNone [(2, AV.int (List.length a0 : Int))] [] [0, 3, 4, 8] (cs := [((AV.int (List.length a0 : Int) = .val (.int .i64 (List.length (List.map Term.av a0) : Int))))]) (st' := ⟨31, [(0, AV.lst 3 Term.av a0), (3, .slice (.own 29) 3 (List.map Term.av p8.1)), (4, AV.int p8.2), (8, AV.bool (decide (p8.2 < (List.length a0 : Int))))], [], [], [(29, (274, 3, List.length (List.map Term.av p8.1)))]⟩) (by kernel_rfl) ⟨len_map _ _, trivial⟩ ?_
  refine awp_cond (t := decide (p8.2 < (List.length a0 : Int))) rfl (fun hb => ?_) (fun hb => ?_)
  · rw [if_pos hb] at h
    refine awp_skip ?_
    refine hN9 _ ?_
    refine awp_seq fun N12 hN12 => ?_
    refine awp_block ?_
    obtain ⟨x13_3, hx13_3, h⟩ := Option.bind_eq_some_iff.1 h
    obtain ⟨x13_8, hx13_8, h⟩ := Option.bind_eq_some_iff.1 h
    obtain ⟨x13_13, hx13_13, h⟩ := Option.bind_eq_some_iff.1 h
    obtain ⟨hp13_18, h⟩ := guardP h
    refine awp_regD mixedTryz kpNone [(3, Term.av x13_3), (8, Term.av x13_8), (13, Term.av x13_13), (18, AV.lst 3 Term.av (p8.1 ++ [(⟨x13_3.Op, x13_8.Key, x13_13.Val⟩ : Term)]))] [] [0, 3, 4] (by kernel_rfl) (cs := [(0 ≤ p8.2), ((List.map Term.av a0)[Int.toNat p8.2]? = some (Term.av x13_3)), (0 ≤ p8.2), ((List.map Term.av a0)[Int.toNat p8.2]? = some (Term.av x13_8)), (0 ≤ p8.2), ((List.map Term.av a0)[Int.toNat p8.2]? = some (Term.av x13_13)), (List.length (List.map Term.av p8.1) = List.length (List.map Term.av p8.1)), (List.length (List.map Term.av (p8.1 ++ [(⟨x13_3.Op, x13_8.Key, x13_13.Val⟩ : Term)])) * 40 ≤ 140737488355328), (List.length (List.map Term.av (p8.1 ++ [(⟨x13_3.Op, x13_8.Key, x13_13.Val⟩ : Term)])) ≤ 140737488355328), (List.map Term.av p8.1 ++ List.map Term.av [(⟨x13_3.Op, x13_8.Key, x13_13.Val⟩ : Term)] = List.map Term.av (p8.1 ++ [(⟨x13_3.Op, x13_8.Key, x13_13.Val⟩ : Term)]))]) (st' := ⟨31, [(0, AV.lst 3 Term.av a0), (3, .slice (.own 29) 3 (List.map Term.av (p8.1 ++ [(⟨x13_3.Op, x13_8.Key, x13_13.Val⟩ : Term)]))), (4, AV.int p8.2)], [], [], [(29, (274, 3, List.length (List.map Term.av (p8.1 ++ [(⟨x13_3.Op, x13_8.Key, x13_13.Val⟩ : Term)])))), (28, (274, 3, 1))]⟩) (by kernel_rfl) ⟨getI_le hx13_3, getI_map hx13_3 _, getI_le hx13_8, getI_map hx13_8 _, getI_le hx13_13, getI_map hx13_13 _, by simp only [List.length_map, List.length_cons, List.length_nil], len_mul _ _ _ _ hp13_18.1, len_ge _ _ hp13_18.2, lst_app _ _ _, trivial⟩ ?_
    refine hN12 _ ?_
    refine awp_reg kpNone [] [] [0, 3, 4] (cs := []) (st' := ⟨31, [(0, AV.lst 3 Term.av a0), (3, .slice (.own 29) 3 (List.map Term.av (p8.1 ++ [(⟨x13_3.Op, x13_8.Key, x13_13.Val⟩ : Term)]))), (4, AV.int (w64 (p8.2 + (1 : Int))))], [], [], [(29, (274, 3, List.length (List.map Term.av (p8.1 ++ [(⟨x13_3.Op, x13_8.Key, x13_13.Val⟩ : Term)])))), (28, (274, 3, 1))]⟩) (by kernel_rfl) trivial ?_
    refine awpL_le ?_ (hrec8 _ h)
    exact Le.mk rfl ⟨.inl rfl, .inl ⟨rfl, rfl⟩, rfl, trivial⟩ trivial ⟨rfl, trivial⟩ trivial
  · rw [if_false hb] at h
    refine awp_exit ?_
    refine hN5 _ ?_
    refine awp_sr kpNone [] [] [2] (cs := []) (st' := ⟨31, [(2, .slice (.own 29) 3 (List.map Term.av p8.1))], [], [], [(29, (274, 3, List.length (List.map Term.av p8.1)))]⟩) (by kernel_rfl) trivial ?_
    have h := Option.some.inj h
    subst h
    exact awp_ret ⟨[.slice (.own 29) 3 (List.map Term.av p8.1)], by kernel_rfl, Lw.refl _⟩
-- {"kind": "opt", "S": "copied 40", "thm": "d108"}
theorem d108 (a0 : List Term) (r : List Term) (h : copied 40 a0 = some r) : Det Tryz.prog 108 [AV.lst 3 Term.av a0] (.ret (AV.lst 3 Term.av r)) := by
  refine Det.len 0 rfl fun hl => c108 a0 _ (rounds_fold a0 hl (fun b t => copied 40 (b ++ t)) _ ?_ ?_) _ ?_
  · intro rec b r h
    rw [List.append_nil] at h
    obtain ⟨rfl, _⟩ := copied_some h
    simp [F108.l8]
  · intro rec p b x t r h0 h1 hx hr hw h
    obtain ⟨h2, h3⟩ := copied_step h
    simp only [F108.l8, hx, hw, h1, decide_true, if_true, Option.bind_some]
    rw [if_pos h2]
    exact hr _ _ h3
  · simp [F108, h]


-- ballastlaw5.OfTols
def F109.l8 (a0 : (List Tol)) (rec8 : (List Tol × Int) → Option (List Tol)) : (List Tol × Int) → Option (List Tol) := fun p8 =>
  if decide (p8.2 < (List.length a0 : Int)) = true then ((getI a0 p8.2).bind fun x13_3 => (getI a0 p8.2).bind fun x13_8 => (getI a0 p8.2).bind fun x13_13 => if fits 40 (List.length (p8.1 ++ [(⟨x13_3.Key, x13_8.Val, x13_13.Any⟩ : Tol)])) then (rec8 (p8.1 ++ [(⟨x13_3.Key, x13_8.Val, x13_13.Any⟩ : Tol)], w64 (p8.2 + (1 : Int)))) else none) else (some p8.1)
def F109 (l8 : (List Tol × Int) → Option (List Tol)) (a0 : (List Tol)) : Option (List Tol) :=
  l8 (([] : List Tol), 0)
/-- ballast/ballastlaw5.OfTols -/
theorem c109 (a0 : (List Tol)) (l8 : (List Tol × Int) → Option (List Tol)) (hl8 : Rounds (F109.l8 a0) (l8)) (r : (List Tol)) (h : F109 l8 a0 = some r) :
    Det Tryz.prog 109 [AV.lst 3 Tol.av a0] (.ret (AV.lst 3 Tol.av r)) := by
  refine Det.of_le ?_
  refine @calls_of_body Tryz.prog 109 Tryz.f109 _ Tryz.func109 rfl (by kernel_rfl) [.tmp 2] (by rw [Tryz.results109]) 31 Tryz.ntmps109 _ _ _ (by simp only [List.length_cons, List.length_nil]; decide) ?_
  unfold F109 at h
  refine awp_sr kpNone [] [] [0] (cs := []) (st' := ⟨31, [(0, AV.lst 3 Tol.av a0)], [], [], []⟩) (by kernel_rfl) trivial ?_
  refine awp_sr kpNone [] [] [0, 3] (cs := []) (st' := ⟨31, [(0, AV.lst 3 Tol.av a0), (3, .nils)], [], [], []⟩) (by kernel_rfl) trivial ?_
  refine awp_seq fun N5 hN5 => ?_
  refine awp_sr kpNone [] [] [0, 3, 4] (cs := []) (st' := ⟨31, [(0, AV.lst 3 Tol.av a0), (3, .nils), (4, AV.int 0)], [], [], []⟩) (by kernel_rfl) trivial ?_
  refine awp_block ?_
  refine awp_loop ?_
  refine awpL_le (st' := ⟨31, [(0, AV.lst 3 Tol.av a0), (3, .slice (.own 29) 3 (List.map Tol.av ([] : List Tol))), (4, AV.int 0)], [], [], [(29, (275, 3, List.length (List.map Tol.av ([] : List Tol))))]⟩) ?_ ?_
  · exact Le.mk rfl ⟨.inl rfl, .inr ⟨rfl, rfl, rfl⟩, rfl, trivial⟩ trivial ⟨⟨rfl, by decide⟩, trivial⟩ trivial
  refine awpL_fix hl8 r (fun p8 => ⟨31, [(0, AV.lst 3 Tol.av a0), (3, .slice (.own 29) 3 (List.map Tol.av p8.1)), (4, AV.int p8.2)], [], [], [(29, (275, 3, List.length (List.map Tol.av p8.1)))]⟩) (fun rec8 hrec8 p8 h => ?_) (([] : List Tol), 0) h
  unfold F109.l8 at h
  refine awpL_round ?_
  refine awp_seq fun N9 hN9 => ?_
  refine awp_sr kpNone [(2, AV.int (List.length a0 : Int))] [] [0, 3, 4, 8] (cs := [((AV.int (List.length a0 : Int) = .val (.int .i64 (List.length (List.map Tol.av a0) : Int))))]) (st' := ⟨31, [(0, AV.lst 3 Tol.av a0), (3, .slice (.own 29) 3 (List.map Tol.av p8.1)), (4, AV.int p8.2), (8, AV.bool (decide (p8.2 < (List.length a0 : Int))))], [], [], [(29, (275, 3, List.length (List.map Tol.av p8.1)))]⟩) (by kernel_rfl) ⟨len_map _ _, trivial⟩ ?_
  refine awp_cond (t := decide (p8.2 < (List.length a0 : Int))) rfl (fun hb => ?_) (fun hb => ?_)
  · rw [if_pos hb] at h
    refine awp_skip ?_
    refine hN9 _ ?_
    refine awp_seq fun N12 hN12 => ?_
    refine awp_block ?_
    obtain ⟨x13_3, hx13_3, h⟩ := Option.bind_eq_some_iff.1 h
    obtain ⟨x13_8, hx13_8, h⟩ := Option.bind_eq_some_iff.1 h
    obtain ⟨x13_13, hx13_13, h⟩ := Option.bind_eq_some_iff.1 h
    obtain ⟨hp13_18, h⟩ := guardP h
    refine awp_regD mixedTryz kpNone [(3, Tol.av x13_3), (8, Tol.av x13_8), (13, Tol.av x13_13), (18, AV.lst 3 Tol.av (p8.1 ++ [(⟨x13_3.Key, x13_8.Val, x13_13.Any⟩ : Tol)]))] [] [0, 3, 4] (by kernel_rfl) (cs := [(0 ≤ p8.2), ((List.map Tol.av a0)[Int.toNat p8.2]? = some (Tol.av x13_3)), (0 ≤ p8.2), ((List.map Tol.av a0)[Int.toNat p8.2]? = some (Tol.av x13_8)), (0 ≤ p8.2), ((List.map Tol.av a0)[Int.toNat p8.2]? = some (Tol.av x13_13)), (List.length (List.map Tol.av p8.1) = List.length (List.map Tol.av p8.1)), (List.length (List.map Tol.av (p8.1 ++ [(⟨x13_3.Key, x13_8.Val, x13_13.Any⟩ : Tol)])) * 40 ≤ 140737488355328), (List.length (List.map Tol.av (p8.1 ++ [(⟨x13_3.Key, x13_8.Val, x13_13.Any⟩ : Tol)])) ≤ 140737488355328), (List.map Tol.av p8.1 ++ List.map Tol.av [(⟨x13_3.Key, x13_8.Val, x13_13.Any⟩ : Tol)] = List.map Tol.av (p8.1 ++ [(⟨x13_3.Key, x13_8.Val, x13_13.Any⟩ : Tol)]))]) (st' := ⟨31, [(0, AV.lst 3 Tol.av a0), (3, .slice (.own 29) 3 (List.map Tol.av (p8.1 ++ [(⟨x13_3.Key, x13_8.Val, x13_13.Any⟩ : Tol)]))), (4, AV.int p8.2)], [], [], [(29, (275, 3, List.length (List.map Tol.av (p8.1 ++ [(⟨x13_3.Key, x13_8.Val, x13_13.Any⟩ : Tol)])))), (28, (275, 3, 1))]⟩) (by kernel_rfl) ⟨getI_le hx13_3, getI_map hx13_3 _, getI_le hx13_8, getI_map hx13_8 _, getI_le hx13_13, getI_map hx13_13 _, by simp only [List.length_map, List.length_cons, List.length_nil], len_mul _ _ _ _ hp13_18.1, len_ge _ _ hp13_18.2, lst_app _ _ _, trivial⟩ ?_
    refine hN12 _ ?_
    refine awp_reg kpNone [] [] [0, 3, 4] (cs := []) (st' := ⟨31, [(0, AV.lst 3 Tol.av a0), (3, .slice (.own 29) 3 (List.map Tol.av (p8.1 ++ [(⟨x13_3.Key, x13_8.Val, x13_13.Any⟩ : Tol)]))), (4, AV.int (w64 (p8.2 + (1 : Int))))], [], [], [(29, (275, 3, List.length (List.map Tol.av (p8.1 ++ [(⟨x13_3.Key, x13_8.Val, x13_13.Any⟩ : Tol)])))), (28, (275, 3, 1))]⟩) (by kernel_rfl) trivial ?_
    refine awpL_le ?_ (hrec8 _ h)
    exact Le.mk rfl ⟨.inl rfl, .inl ⟨rfl, rfl⟩, rfl, trivial⟩ trivial ⟨rfl, trivial⟩ trivial
  · rw [if_false hb] at h
    refine awp_exit ?_
    refine hN5 _ ?_
    refine awp_sr kpNone [] [] [2] (cs := []) (st' := ⟨31, [(2, .slice (.own 29) 3 (List.map Tol.av p8.1))], [], [], [(29, (275, 3, List.length (List.map Tol.av p8.1)))]⟩) (by kernel_rfl) trivial ?_
    have h := Option.some.inj h
    subst h
    exact awp_ret ⟨[.slice (.own 29) 3 (List.map Tol.av p8.1)], by kernel_rfl, Lw.refl _⟩
-- {"kind": "opt", "S": "copied 40", "thm": "d109"}
theorem d109 (a0 : List Tol) (r : List Tol) (h : copied 40 a0 = some r) : Det Tryz.prog 109 [AV.lst 3 Tol.av a0] (.ret (AV.lst 3 Tol.av r)) := by
  refine Det.len 0 rfl fun hl => c109 a0 _ (rounds_fold a0 hl (fun b t => copied 40 (b ++ t)) _ ?_ ?_) _ ?_
  · intro rec b r h
    rw [List.append_nil] at h
    obtain ⟨rfl, _⟩ := copied_some h
    simp [F109.l8]
  · intro rec p b x t r h0 h1 hx hr hw h
    obtain ⟨h2, h3⟩ := copied_step h
    simp only [F109.l8, hx, hw, h1, decide_true, if_true, Option.bind_some]
    rw [if_pos h2]
    exact hr _ _ h3
  · simp [F109, h]


-- ballastlaw7.Of
def F32 (a0 : Pod) : Option Pod :=
  (copied 24 a0.Need).bind fun x4_8 => (copied 32 a0.Labels).bind fun x4_11 => (copied 40 a0.Sel).bind fun x4_14 => (copied 40 a0.Tols).bind fun x4_17 => some (⟨a0.Name, a0.Owner, a0.Prio, x4_8, x4_11, x4_14, x4_17, a0.Key, a0.Most, a0.Node, a0.Hold⟩ : Pod)
/-- ballast/ballastlaw7.Of -/
theorem c32 (a0 : Pod) (r : Pod) (h : F32 a0 = some r) :
    Det Tryz.prog 32 [Pod.av a0] (.ret (Pod.av r)) := by
  refine Det.of_le ?_
  refine @calls_of_body Tryz.prog 32 Tryz.f32 _ Tryz.func32 rfl (by kernel_rfl) [.cell 2 52] (by rw [Tryz.results32]) 30 Tryz.ntmps32 _ _ _ (by simp only [List.length_cons, List.length_nil]; decide) ?_
  unfold F32 at h
  refine awp_sr kpNone [] [] [1, 2] (cs := []) (st' := ⟨30, [(1, .varp 1 0), (2, .varp 2 0)], [(2, (false, [AV.str [], AV.str [], AV.int 0, .nils, .nils, .nils, .nils, AV.str [], AV.int 0, AV.str [], AV.bool false])), (1, (false, a0.cs))], [], []⟩) (by kernel_rfl) trivial ?_
  refine awp_seq fun N3 hN3 => ?_
  obtain ⟨x4_8, hx4_8, h⟩ := Option.bind_eq_some_iff.1 h
  obtain ⟨x4_11, hx4_11, h⟩ := Option.bind_eq_some_iff.1 h
  obtain ⟨x4_14, hx4_14, h⟩ := Option.bind_eq_some_iff.1 h
  obtain ⟨x4_17, hx4_17, h⟩ := Option.bind_eq_some_iff.1 h
  refine awp_regD mixedTryz kpNone [(8, AV.lst 2 Amount.av x4_8), (11, AV.lst 2 Pair.av x4_11), (14, AV.lst 3 Term.av x4_14), (17, AV.lst 3 Tol.av x4_17)] [] [2] (by kernel_rfl) (cs := [(Det Tryz.prog 58 [AV.lst 2 Amount.av a0.Need] (.ret (AV.lst 2 Amount.av x4_8))), (Det Tryz.prog 107 [AV.lst 2 Pair.av a0.Labels] (.ret (AV.lst 2 Pair.av x4_11))), (Det Tryz.prog 108 [AV.lst 3 Term.av a0.Sel] (.ret (AV.lst 3 Term.av x4_14))), (Det Tryz.prog 109 [AV.lst 3 Tol.av a0.Tols] (.ret (AV.lst 3 Tol.av x4_17)))]) (st' := ⟨30, [(2, .varp 2 0)], [(2, (false, [AV.str a0.Name, AV.str a0.Owner, AV.int a0.Prio, AV.lst 2 Amount.av x4_8, AV.lst 2 Pair.av x4_11, AV.lst 3 Term.av x4_14, AV.lst 3 Tol.av x4_17, AV.str a0.Key, AV.int a0.Most, AV.str a0.Node, AV.bool a0.Hold])), (1, (false, a0.cs))], [], []⟩) (by kernel_rfl) ⟨d58 a0.Need _ hx4_8, d107 a0.Labels _ hx4_11, d108 a0.Sel _ hx4_14, d109 a0.Tols _ hx4_17, trivial⟩ ?_
  refine hN3 _ ?_
  have h := Option.some.inj h
  subst h
  exact awp_ret ⟨[.agg [AV.str a0.Name, AV.str a0.Owner, AV.int a0.Prio, AV.lst 2 Amount.av x4_8, AV.lst 2 Pair.av x4_11, AV.lst 3 Term.av x4_14, AV.lst 3 Tol.av x4_17, AV.str a0.Key, AV.int a0.Most, AV.str a0.Node, AV.bool a0.Hold]], by kernel_rfl, Lw.refl _⟩
-- {"kind": "opt", "S": "keep Pod.ok", "thm": "d32"}
theorem d32 (a0 r : Pod) (h : keep Pod.ok a0 = some r) : Det Tryz.prog 32 [Pod.av a0] (.ret (Pod.av r)) := by
  refine c32 a0 _ ?_
  obtain ⟨rfl, h⟩ := keep_some h
  simp only [Pod.ok, Bool.and_eq_true, decide_eq_true_eq] at h
  simp only [F32]
  rw [copied_of h.1.1.1, Option.bind_some, copied_of h.1.1.2, Option.bind_some, copied_of h.1.2, Option.bind_some, copied_of h.2, Option.bind_some]


-- ballastlaw7.OfAll
def F111.l8 (a0 : (List Pod)) (rec8 : (List Pod × Int) → Option (List Pod)) : (List Pod × Int) → Option (List Pod) := fun p8 =>
  if decide (p8.2 < (List.length a0 : Int)) = true then ((getI a0 p8.2).bind fun x13_3 => (keep Pod.ok x13_3).bind fun x13_5 => if fits 184 (List.length (p8.1 ++ [x13_5])) then (rec8 (p8.1 ++ [x13_5], w64 (p8.2 + (1 : Int)))) else none) else (some p8.1)
def F111 (l8 : (List Pod × Int) → Option (List Pod)) (a0 : (List Pod)) : Option (List Pod) :=
  l8 (([] : List Pod), 0)
/-- ballast/ballastlaw7.OfAll -/
theorem c111 (a0 : (List Pod)) (l8 : (List Pod × Int) → Option (List Pod)) (hl8 : Rounds (F111.l8 a0) (l8)) (r : (List Pod)) (h : F111 l8 a0 = some r) :
    Det Tryz.prog 111 [AV.lst 11 Pod.av a0] (.ret (AV.lst 11 Pod.av r)) := by
  refine Det.of_le ?_
  refine @calls_of_body Tryz.prog 111 Tryz.f111 _ Tryz.func111 rfl (by kernel_rfl) [.tmp 2] (by rw [Tryz.results111]) 20 Tryz.ntmps111 _ _ _ (by simp only [List.length_cons, List.length_nil]; decide) ?_
  unfold F111 at h
  refine awp_sr kpNone [] [] [0] (cs := []) (st' := ⟨20, [(0, AV.lst 11 Pod.av a0)], [], [], []⟩) (by kernel_rfl) trivial ?_
  refine awp_sr kpNone [] [] [0, 3] (cs := []) (st' := ⟨20, [(0, AV.lst 11 Pod.av a0), (3, .nils)], [], [], []⟩) (by kernel_rfl) trivial ?_
  refine awp_seq fun N5 hN5 => ?_
  refine awp_sr kpNone [] [] [0, 3, 4] (cs := []) (st' := ⟨20, [(0, AV.lst 11 Pod.av a0), (3, .nils), (4, AV.int 0)], [], [], []⟩) (by kernel_rfl) trivial ?_
  refine awp_block ?_
  refine awp_loop ?_
  refine awpL_le (st' := ⟨20, [(0, AV.lst 11 Pod.av a0), (3, .slice (.own 18) 11 (List.map Pod.av ([] : List Pod))), (4, AV.int 0)], [], [], [(18, (52, 11, List.length (List.map Pod.av ([] : List Pod))))]⟩) ?_ ?_
  · exact Le.mk rfl ⟨.inl rfl, .inr ⟨rfl, rfl, rfl⟩, rfl, trivial⟩ trivial ⟨⟨rfl, by decide⟩, trivial⟩ trivial
  refine awpL_fix hl8 r (fun p8 => ⟨20, [(0, AV.lst 11 Pod.av a0), (3, .slice (.own 18) 11 (List.map Pod.av p8.1)), (4, AV.int p8.2)], [], [], [(18, (52, 11, List.length (List.map Pod.av p8.1)))]⟩) (fun rec8 hrec8 p8 h => ?_) (([] : List Pod), 0) h
  unfold F111.l8 at h
  refine awpL_round ?_
  refine awp_seq fun N9 hN9 => ?_
  refine awp_sr kpNone [(2, AV.int (List.length a0 : Int))] [] [0, 3, 4, 8] (cs := [((AV.int (List.length a0 : Int) = .val (.int .i64 (List.length (List.map Pod.av a0) : Int))))]) (st' := ⟨20, [(0, AV.lst 11 Pod.av a0), (3, .slice (.own 18) 11 (List.map Pod.av p8.1)), (4, AV.int p8.2), (8, AV.bool (decide (p8.2 < (List.length a0 : Int))))], [], [], [(18, (52, 11, List.length (List.map Pod.av p8.1)))]⟩) (by kernel_rfl) ⟨len_map _ _, trivial⟩ ?_
  refine awp_cond (t := decide (p8.2 < (List.length a0 : Int))) rfl (fun hb => ?_) (fun hb => ?_)
  · rw [if_pos hb] at h
    refine awp_skip ?_
    refine hN9 _ ?_
    refine awp_seq fun N12 hN12 => ?_
    refine awp_block ?_
    obtain ⟨x13_3, hx13_3, h⟩ := Option.bind_eq_some_iff.1 h
    obtain ⟨x13_5, hx13_5, h⟩ := Option.bind_eq_some_iff.1 h
    obtain ⟨hp13_7, h⟩ := guardP h
    refine awp_reg kpNone [(3, Pod.av x13_3), (5, Pod.av x13_5), (7, AV.lst 11 Pod.av (p8.1 ++ [x13_5]))] [] [0, 3, 4] (cs := [(0 ≤ p8.2), ((List.map Pod.av a0)[Int.toNat p8.2]? = some (Pod.av x13_3)), (Det Tryz.prog 32 [Pod.av x13_3] (.ret (Pod.av x13_5))), (List.length (List.map Pod.av p8.1) = List.length (List.map Pod.av p8.1)), (List.length (List.map Pod.av (p8.1 ++ [x13_5])) * 184 ≤ 140737488355328), (List.length (List.map Pod.av (p8.1 ++ [x13_5])) ≤ 140737488355328), (List.map Pod.av p8.1 ++ List.map Pod.av [x13_5] = List.map Pod.av (p8.1 ++ [x13_5]))]) (st' := ⟨20, [(0, AV.lst 11 Pod.av a0), (3, .slice (.own 18) 11 (List.map Pod.av (p8.1 ++ [x13_5]))), (4, AV.int p8.2)], [], [], [(18, (52, 11, List.length (List.map Pod.av (p8.1 ++ [x13_5])))), (17, (52, 11, 1))]⟩) (by kernel_rfl) ⟨getI_le hx13_3, getI_map hx13_3 _, d32 x13_3 _ hx13_5, by simp only [List.length_map, List.length_cons, List.length_nil], len_mul _ _ _ _ hp13_7.1, len_ge _ _ hp13_7.2, lst_app _ _ _, trivial⟩ ?_
    refine hN12 _ ?_
    refine awp_reg kpNone [] [] [0, 3, 4] (cs := []) (st' := ⟨20, [(0, AV.lst 11 Pod.av a0), (3, .slice (.own 18) 11 (List.map Pod.av (p8.1 ++ [x13_5]))), (4, AV.int (w64 (p8.2 + (1 : Int))))], [], [], [(18, (52, 11, List.length (List.map Pod.av (p8.1 ++ [x13_5])))), (17, (52, 11, 1))]⟩) (by kernel_rfl) trivial ?_
    refine awpL_le ?_ (hrec8 _ h)
    exact Le.mk rfl ⟨.inl rfl, .inl ⟨rfl, rfl⟩, rfl, trivial⟩ trivial ⟨rfl, trivial⟩ trivial
  · rw [if_false hb] at h
    refine awp_exit ?_
    refine hN5 _ ?_
    refine awp_sr kpNone [] [] [2] (cs := []) (st' := ⟨20, [(2, .slice (.own 18) 11 (List.map Pod.av p8.1))], [], [], [(18, (52, 11, List.length (List.map Pod.av p8.1)))]⟩) (by kernel_rfl) trivial ?_
    have h := Option.some.inj h
    subst h
    exact awp_ret ⟨[.slice (.own 18) 11 (List.map Pod.av p8.1)], by kernel_rfl, Lw.refl _⟩
-- {"kind": "opt", "S": "keepAll 184 Pod.ok", "thm": "d111"}
theorem d111 (a0 r : List Pod) (h : keepAll 184 Pod.ok a0 = some r) : Det Tryz.prog 111 [AV.lst 11 Pod.av a0] (.ret (AV.lst 11 Pod.av r)) := by
  refine Det.len 0 rfl fun hl => c111 a0 _ (rounds_fold a0 hl (fun b t => keepL 184 Pod.ok b t) _ ?_ ?_) _ ?_
  · intro rec b r h
    obtain ⟨rfl, _⟩ := keepL_some h
    simp [F111.l8]
  · intro rec p b x t r h0 h1 hx hr hw h
    obtain ⟨h2, h3, h4⟩ := keepL_step h
    simp only [F111.l8, hx, hw, h1, h2, decide_true, if_true, Option.bind_some]
    rw [if_pos h3]
    exact hr _ _ h4
  · obtain ⟨rfl, h1, h2⟩ := keepAll_some h
    have h1' : r.length * 184 ≤ 140737488355328 ∧ r.length ≤ 140737488355328 := h1
    simp [F111, keepL, h1', h2]


-- ballastlaw8.Of
def F210 (a0 : Budget) : Option Budget :=
  (copied 40 a0.Sel).bind fun x4_4 => some (⟨a0.Name, x4_4, a0.Floor⟩ : Budget)
/-- ballast/ballastlaw8.Of -/
theorem c210 (a0 : Budget) (r : Budget) (h : F210 a0 = some r) :
    Det Tryz.prog 210 [Budget.av a0] (.ret (Budget.av r)) := by
  refine Det.of_le ?_
  refine @calls_of_body Tryz.prog 210 Tryz.f210 _ Tryz.func210 rfl (by kernel_rfl) [.cell 2 244] (by rw [Tryz.results210]) 11 Tryz.ntmps210 _ _ _ (by simp only [List.length_cons, List.length_nil]; decide) ?_
  unfold F210 at h
  refine awp_sr kpNone [] [] [1, 2] (cs := []) (st' := ⟨11, [(1, .varp 1 0), (2, .varp 2 0)], [(2, (false, [AV.str [], .nils, AV.int 0])), (1, (false, a0.cs))], [], []⟩) (by kernel_rfl) trivial ?_
  refine awp_seq fun N3 hN3 => ?_
  obtain ⟨x4_4, hx4_4, h⟩ := Option.bind_eq_some_iff.1 h
  refine awp_regD mixedTryz kpNone [(4, AV.lst 3 Term.av x4_4)] [] [2] (by kernel_rfl) (cs := [(Det Tryz.prog 108 [AV.lst 3 Term.av a0.Sel] (.ret (AV.lst 3 Term.av x4_4)))]) (st' := ⟨11, [(2, .varp 2 0)], [(2, (false, [AV.str a0.Name, AV.lst 3 Term.av x4_4, AV.int a0.Floor])), (1, (false, a0.cs))], [], []⟩) (by kernel_rfl) ⟨d108 a0.Sel _ hx4_4, trivial⟩ ?_
  refine hN3 _ ?_
  have h := Option.some.inj h
  subst h
  exact awp_ret ⟨[.agg [AV.str a0.Name, AV.lst 3 Term.av x4_4, AV.int a0.Floor]], by kernel_rfl, Lw.refl _⟩
-- {"kind": "opt", "S": "keep Budget.ok", "thm": "d210"}
theorem d210 (a0 r : Budget) (h : keep Budget.ok a0 = some r) : Det Tryz.prog 210 [Budget.av a0] (.ret (Budget.av r)) := by
  refine c210 a0 _ ?_
  obtain ⟨rfl, h⟩ := keep_some h
  simp only [Budget.ok, Bool.and_eq_true, decide_eq_true_eq] at h
  simp only [F210]
  rw [copied_of h, Option.bind_some]


-- ballastlaw8.OfAll
def F112.l8 (a0 : (List Budget)) (rec8 : (List Budget × Int) → Option (List Budget)) : (List Budget × Int) → Option (List Budget) := fun p8 =>
  if decide (p8.2 < (List.length a0 : Int)) = true then ((getI a0 p8.2).bind fun x13_3 => (keep Budget.ok x13_3).bind fun x13_5 => if fits 48 (List.length (p8.1 ++ [x13_5])) then (rec8 (p8.1 ++ [x13_5], w64 (p8.2 + (1 : Int)))) else none) else (some p8.1)
def F112 (l8 : (List Budget × Int) → Option (List Budget)) (a0 : (List Budget)) : Option (List Budget) :=
  l8 (([] : List Budget), 0)
/-- ballast/ballastlaw8.OfAll -/
theorem c112 (a0 : (List Budget)) (l8 : (List Budget × Int) → Option (List Budget)) (hl8 : Rounds (F112.l8 a0) (l8)) (r : (List Budget)) (h : F112 l8 a0 = some r) :
    Det Tryz.prog 112 [AV.lst 3 Budget.av a0] (.ret (AV.lst 3 Budget.av r)) := by
  refine Det.of_le ?_
  refine @calls_of_body Tryz.prog 112 Tryz.f112 _ Tryz.func112 rfl (by kernel_rfl) [.tmp 2] (by rw [Tryz.results112]) 20 Tryz.ntmps112 _ _ _ (by simp only [List.length_cons, List.length_nil]; decide) ?_
  unfold F112 at h
  refine awp_sr kpNone [] [] [0] (cs := []) (st' := ⟨20, [(0, AV.lst 3 Budget.av a0)], [], [], []⟩) (by kernel_rfl) trivial ?_
  refine awp_sr kpNone [] [] [0, 3] (cs := []) (st' := ⟨20, [(0, AV.lst 3 Budget.av a0), (3, .nils)], [], [], []⟩) (by kernel_rfl) trivial ?_
  refine awp_seq fun N5 hN5 => ?_
  refine awp_sr kpNone [] [] [0, 3, 4] (cs := []) (st' := ⟨20, [(0, AV.lst 3 Budget.av a0), (3, .nils), (4, AV.int 0)], [], [], []⟩) (by kernel_rfl) trivial ?_
  refine awp_block ?_
  refine awp_loop ?_
  refine awpL_le (st' := ⟨20, [(0, AV.lst 3 Budget.av a0), (3, .slice (.own 18) 3 (List.map Budget.av ([] : List Budget))), (4, AV.int 0)], [], [], [(18, (244, 3, List.length (List.map Budget.av ([] : List Budget))))]⟩) ?_ ?_
  · exact Le.mk rfl ⟨.inl rfl, .inr ⟨rfl, rfl, rfl⟩, rfl, trivial⟩ trivial ⟨⟨rfl, by decide⟩, trivial⟩ trivial
  refine awpL_fix hl8 r (fun p8 => ⟨20, [(0, AV.lst 3 Budget.av a0), (3, .slice (.own 18) 3 (List.map Budget.av p8.1)), (4, AV.int p8.2)], [], [], [(18, (244, 3, List.length (List.map Budget.av p8.1)))]⟩) (fun rec8 hrec8 p8 h => ?_) (([] : List Budget), 0) h
  unfold F112.l8 at h
  refine awpL_round ?_
  refine awp_seq fun N9 hN9 => ?_
  refine awp_sr kpNone [(2, AV.int (List.length a0 : Int))] [] [0, 3, 4, 8] (cs := [((AV.int (List.length a0 : Int) = .val (.int .i64 (List.length (List.map Budget.av a0) : Int))))]) (st' := ⟨20, [(0, AV.lst 3 Budget.av a0), (3, .slice (.own 18) 3 (List.map Budget.av p8.1)), (4, AV.int p8.2), (8, AV.bool (decide (p8.2 < (List.length a0 : Int))))], [], [], [(18, (244, 3, List.length (List.map Budget.av p8.1)))]⟩) (by kernel_rfl) ⟨len_map _ _, trivial⟩ ?_
  refine awp_cond (t := decide (p8.2 < (List.length a0 : Int))) rfl (fun hb => ?_) (fun hb => ?_)
  · rw [if_pos hb] at h
    refine awp_skip ?_
    refine hN9 _ ?_
    refine awp_seq fun N12 hN12 => ?_
    refine awp_block ?_
    obtain ⟨x13_3, hx13_3, h⟩ := Option.bind_eq_some_iff.1 h
    obtain ⟨x13_5, hx13_5, h⟩ := Option.bind_eq_some_iff.1 h
    obtain ⟨hp13_7, h⟩ := guardP h
    refine awp_reg kpNone [(3, Budget.av x13_3), (5, Budget.av x13_5), (7, AV.lst 3 Budget.av (p8.1 ++ [x13_5]))] [] [0, 3, 4] (cs := [(0 ≤ p8.2), ((List.map Budget.av a0)[Int.toNat p8.2]? = some (Budget.av x13_3)), (Det Tryz.prog 210 [Budget.av x13_3] (.ret (Budget.av x13_5))), (List.length (List.map Budget.av p8.1) = List.length (List.map Budget.av p8.1)), (List.length (List.map Budget.av (p8.1 ++ [x13_5])) * 48 ≤ 140737488355328), (List.length (List.map Budget.av (p8.1 ++ [x13_5])) ≤ 140737488355328), (List.map Budget.av p8.1 ++ List.map Budget.av [x13_5] = List.map Budget.av (p8.1 ++ [x13_5]))]) (st' := ⟨20, [(0, AV.lst 3 Budget.av a0), (3, .slice (.own 18) 3 (List.map Budget.av (p8.1 ++ [x13_5]))), (4, AV.int p8.2)], [], [], [(18, (244, 3, List.length (List.map Budget.av (p8.1 ++ [x13_5])))), (17, (244, 3, 1))]⟩) (by kernel_rfl) ⟨getI_le hx13_3, getI_map hx13_3 _, d210 x13_3 _ hx13_5, by simp only [List.length_map, List.length_cons, List.length_nil], len_mul _ _ _ _ hp13_7.1, len_ge _ _ hp13_7.2, lst_app _ _ _, trivial⟩ ?_
    refine hN12 _ ?_
    refine awp_reg kpNone [] [] [0, 3, 4] (cs := []) (st' := ⟨20, [(0, AV.lst 3 Budget.av a0), (3, .slice (.own 18) 3 (List.map Budget.av (p8.1 ++ [x13_5]))), (4, AV.int (w64 (p8.2 + (1 : Int))))], [], [], [(18, (244, 3, List.length (List.map Budget.av (p8.1 ++ [x13_5])))), (17, (244, 3, 1))]⟩) (by kernel_rfl) trivial ?_
    refine awpL_le ?_ (hrec8 _ h)
    exact Le.mk rfl ⟨.inl rfl, .inl ⟨rfl, rfl⟩, rfl, trivial⟩ trivial ⟨rfl, trivial⟩ trivial
  · rw [if_false hb] at h
    refine awp_exit ?_
    refine hN5 _ ?_
    refine awp_sr kpNone [] [] [2] (cs := []) (st' := ⟨20, [(2, .slice (.own 18) 3 (List.map Budget.av p8.1))], [], [], [(18, (244, 3, List.length (List.map Budget.av p8.1)))]⟩) (by kernel_rfl) trivial ?_
    have h := Option.some.inj h
    subst h
    exact awp_ret ⟨[.slice (.own 18) 3 (List.map Budget.av p8.1)], by kernel_rfl, Lw.refl _⟩
-- {"kind": "opt", "S": "keepAll 48 Budget.ok", "thm": "d112"}
theorem d112 (a0 r : List Budget) (h : keepAll 48 Budget.ok a0 = some r) : Det Tryz.prog 112 [AV.lst 3 Budget.av a0] (.ret (AV.lst 3 Budget.av r)) := by
  refine Det.len 0 rfl fun hl => c112 a0 _ (rounds_fold a0 hl (fun b t => keepL 48 Budget.ok b t) _ ?_ ?_) _ ?_
  · intro rec b r h
    obtain ⟨rfl, _⟩ := keepL_some h
    simp [F112.l8]
  · intro rec p b x t r h0 h1 hx hr hw h
    obtain ⟨h2, h3, h4⟩ := keepL_step h
    simp only [F112.l8, hx, hw, h1, h2, decide_true, if_true, Option.bind_some]
    rw [if_pos h3]
    exact hr _ _ h4
  · obtain ⟨rfl, h1, h2⟩ := keepAll_some h
    have h1' : r.length * 48 ≤ 140737488355328 ∧ r.length ≤ 140737488355328 := h1
    simp [F112, keepL, h1', h2]


-- ballastlaw9.Of
def F33 (a0 : State) : Option State :=
  (keepAll 96 Node.ok a0.Nodes).bind fun x4_2 => (keepAll 184 Pod.ok a0.Pods).bind fun x4_5 => (keepAll 48 Budget.ok a0.Budgets).bind fun x4_8 => some (⟨x4_2, x4_5, x4_8⟩ : State)
/-- ballast/ballastlaw9.Of -/
theorem c33 (a0 : State) (r : State) (h : F33 a0 = some r) :
    Det Tryz.prog 33 [State.av a0] (.ret (State.av r)) := by
  refine Det.of_le ?_
  refine @calls_of_body Tryz.prog 33 Tryz.f33 _ Tryz.func33 rfl (by kernel_rfl) [.cell 2 58] (by rw [Tryz.results33]) 13 Tryz.ntmps33 _ _ _ (by simp only [List.length_cons, List.length_nil]; decide) ?_
  unfold F33 at h
  refine awp_sr kpNone [] [] [1, 2] (cs := []) (st' := ⟨13, [(1, .varp 1 0), (2, .varp 2 0)], [(2, (false, [.nils, .nils, .nils])), (1, (false, a0.cs))], [], []⟩) (by kernel_rfl) trivial ?_
  refine awp_seq fun N3 hN3 => ?_
  obtain ⟨x4_2, hx4_2, h⟩ := Option.bind_eq_some_iff.1 h
  obtain ⟨x4_5, hx4_5, h⟩ := Option.bind_eq_some_iff.1 h
  obtain ⟨x4_8, hx4_8, h⟩ := Option.bind_eq_some_iff.1 h
  refine awp_regD mixedTryz kpNone [(2, AV.lst 5 Node.av x4_2), (5, AV.lst 11 Pod.av x4_5), (8, AV.lst 3 Budget.av x4_8)] [] [2] (by kernel_rfl) (cs := [(Det Tryz.prog 110 [AV.lst 5 Node.av a0.Nodes] (.ret (AV.lst 5 Node.av x4_2))), (Det Tryz.prog 111 [AV.lst 11 Pod.av a0.Pods] (.ret (AV.lst 11 Pod.av x4_5))), (Det Tryz.prog 112 [AV.lst 3 Budget.av a0.Budgets] (.ret (AV.lst 3 Budget.av x4_8)))]) (st' := ⟨13, [(2, .varp 2 0)], [(2, (false, [AV.lst 5 Node.av x4_2, AV.lst 11 Pod.av x4_5, AV.lst 3 Budget.av x4_8])), (1, (false, a0.cs))], [], []⟩) (by kernel_rfl) ⟨d110 a0.Nodes _ hx4_2, d111 a0.Pods _ hx4_5, d112 a0.Budgets _ hx4_8, trivial⟩ ?_
  refine hN3 _ ?_
  have h := Option.some.inj h
  subst h
  exact awp_ret ⟨[.agg [AV.lst 5 Node.av x4_2, AV.lst 11 Pod.av x4_5, AV.lst 3 Budget.av x4_8]], by kernel_rfl, Lw.refl _⟩
-- {"kind": "opt", "S": "keep State.ok", "thm": "d33"}
theorem d33 (a0 r : State) (h : keep State.ok a0 = some r) : Det Tryz.prog 33 [State.av a0] (.ret (State.av r)) := by
  refine c33 a0 _ ?_
  obtain ⟨rfl, h⟩ := keep_some h
  simp only [State.ok, Bool.and_eq_true, decide_eq_true_eq] at h
  simp only [F33, keepAll]
  rw [if_pos ⟨h.1.1.1.1.1, h.1.1.1.1.2⟩, Option.bind_some, if_pos ⟨h.1.1.1.2, h.1.1.2⟩, Option.bind_some, if_pos ⟨h.1.2, h.2⟩]
  rfl


-- ballastref5.IsName
def F102.j24 (rec13 : (Int) → Option Bool) (p13 : Int) : (Bool) → Option Bool := fun p24 =>
  if p24 = true then (some false) else (rec13 (w64 (p13 + (1 : Int))))
def F102.l13 (a0 : Str) (rec13 : (Int) → Option Bool) : (Int) → Option Bool := fun p13 =>
  if decide (p13 < (List.length a0 : Int)) = true then ((getI a0 p13).bind fun x19_2 => if decide ((x19_2.toNat : Int) < (97 : Int)) = true then ((getI a0 p13).bind fun x19_13 => if decide ((x19_13.toNat : Int) < (48 : Int)) = true then (F102.j24 rec13 p13 true) else ((getI a0 p13).bind fun x19_18 => F102.j24 rec13 p13 (decide ((57 : Int) < (x19_18.toNat : Int))))) else ((getI a0 p13).bind fun x19_7 => if decide ((122 : Int) < (x19_7.toNat : Int)) = true then ((getI a0 p13).bind fun x19_13 => if decide ((x19_13.toNat : Int) < (48 : Int)) = true then (F102.j24 rec13 p13 true) else ((getI a0 p13).bind fun x19_18 => F102.j24 rec13 p13 (decide ((57 : Int) < (x19_18.toNat : Int))))) else (F102.j24 rec13 p13 false))) else (some true)
def F102 (l13 : (Int) → Option Bool) (a0 : Str) : Option Bool :=
  if ((decide ((List.length a0 : Int) < (1 : Int))) || (decide ((12 : Int) < (List.length a0 : Int)))) = true then (some false) else (l13 0)
/-- ballast/ballastref5.IsName -/
theorem c102 (a0 : Str) (l13 : (Int) → Option Bool) (hl13 : Rounds (F102.l13 a0) (l13)) (r : Bool) (h : F102 l13 a0 = some r) :
    Det Tryz.prog 102 [AV.str a0] (.ret (AV.bool r)) := by
  refine Det.of_le ?_
  refine @calls_of_body Tryz.prog 102 Tryz.f102 _ Tryz.func102 rfl (by kernel_rfl) [.tmp 2] (by rw [Tryz.results102]) 40 Tryz.ntmps102 _ _ _ (by simp only [List.length_cons, List.length_nil]; decide) ?_
  unfold F102 at h
  refine awp_sr kpNone [] [] [0] (cs := []) (st' := ⟨40, [(0, AV.str a0)], [], [], []⟩) (by kernel_rfl) trivial ?_
  refine awp_seq fun N3 hN3 => ?_
  refine awp_seq fun N4 hN4 => ?_
  refine awp_to (σ := Bool) (fun p => ⟨40, [(0, AV.str a0), (11, AV.bool p)], [], [], []⟩) (fun p => p = ((decide ((List.length a0 : Int) < (1 : Int))) || (decide ((12 : Int) < (List.length a0 : Int))))) (fun p hp => ?_) (fun N7 hJ7 => ?_)
  · subst hp
    refine hN4 _ ?_
    refine awp_cond (t := ((decide ((List.length a0 : Int) < (1 : Int))) || (decide ((12 : Int) < (List.length a0 : Int))))) rfl (fun hb => ?_) (fun hb => ?_)
    · rw [if_pos hb] at h
      refine awp_sr kpNone [] [] [2] (cs := []) (st' := ⟨40, [(2, AV.bool false)], [], [], []⟩) (by kernel_rfl) trivial ?_
      have h := Option.some.inj h
      subst h
      exact awp_ret ⟨[AV.bool false], by kernel_rfl, Lw.refl _⟩
    · rw [if_false hb] at h
      refine awp_skip ?_
      refine hN3 _ ?_
      refine awp_seq fun N10 hN10 => ?_
      refine awp_sr kpNone [] [] [0, 3] (cs := []) (st' := ⟨40, [(0, AV.str a0), (3, AV.int 0)], [], [], []⟩) (by kernel_rfl) trivial ?_
      refine awp_block ?_
      refine awp_loop ?_
      refine awpL_le (st' := ⟨40, [(0, AV.str a0), (3, AV.int 0)], [], [], []⟩) ?_ ?_
      · exact Le.rfl'
      refine awpL_fix hl13 r (fun p13 => ⟨40, [(0, AV.str a0), (3, AV.int p13)], [], [], []⟩) (fun rec13 hrec13 p13 h => ?_) 0 h
      unfold F102.l13 at h
      refine awpL_round ?_
      refine awp_seq fun N14 hN14 => ?_
      refine awp_sr kpNone [] [] [0, 3, 15] (cs := []) (st' := ⟨40, [(0, AV.str a0), (3, AV.int p13), (15, AV.bool (decide (p13 < (List.length a0 : Int))))], [], [], []⟩) (by kernel_rfl) trivial ?_
      refine awp_cond (t := decide (p13 < (List.length a0 : Int))) rfl (fun hb => ?_) (fun hb => ?_)
      · rw [if_pos hb] at h
        refine awp_skip ?_
        refine hN14 _ ?_
        refine awp_seq fun N17 hN17 => ?_
        refine awp_block ?_
        refine awp_seq fun N18 hN18 => ?_
        refine awp_to (σ := Bool) (fun p24 => ⟨40, [(0, AV.str a0), (3, AV.int p13), (39, AV.bool p24)], [], [], []⟩) (fun p24 => F102.j24 rec13 p13 p24 = some r) (fun p24 h => ?_) (fun N24 hJ24 => ?_)
        · unfold F102.j24 at h
          refine hN18 _ ?_
          refine awp_cond (t := p24) rfl (fun hb => ?_) (fun hb => ?_)
          · rw [if_pos hb] at h
            refine awp_sr kpNone [] [] [2] (cs := []) (st' := ⟨40, [(2, AV.bool false)], [], [], []⟩) (by kernel_rfl) trivial ?_
            have h := Option.some.inj h
            subst h
            exact awp_ret ⟨[AV.bool false], by kernel_rfl, Lw.refl _⟩
          · rw [if_false hb] at h
            refine awp_skip ?_
            refine hN17 _ ?_
            refine awp_reg kpNone [] [] [0, 3] (cs := []) (st' := ⟨40, [(0, AV.str a0), (3, AV.int (w64 (p13 + (1 : Int))))], [], [], []⟩) (by kernel_rfl) trivial ?_
            refine awpL_le ?_ (hrec13 _ h)
            exact Le.rfl'
        · obtain ⟨x19_2, hx19_2, h⟩ := Option.bind_eq_some_iff.1 h
          by_cases hg20 : decide ((x19_2.toNat : Int) < (97 : Int)) = true
          · rw [if_pos hg20] at h
            obtain ⟨x19_13, hx19_13, h⟩ := Option.bind_eq_some_iff.1 h
            by_cases hg21 : decide ((x19_13.toNat : Int) < (48 : Int)) = true
            · rw [if_pos hg21] at h
              refine awp_reg kpNone [(2, AV.ik .u8 (x19_2.toNat : Int)), (13, AV.ik .u8 (x19_13.toNat : Int))] [(4, true), (15, true)] [0, 3, 39] (cs := [(0 ≤ p13), (∃ b, a0[Int.toNat p13]? = some b ∧ AV.ik .u8 (x19_2.toNat : Int) = .val (.int .u8 b.toNat)), (decide ((x19_2.toNat : Int) < (97 : Int)) = true), (0 ≤ p13), (∃ b, a0[Int.toNat p13]? = some b ∧ AV.ik .u8 (x19_13.toNat : Int) = .val (.int .u8 b.toNat)), (decide ((x19_13.toNat : Int) < (48 : Int)) = true)]) (st' := ⟨40, [(0, AV.str a0), (3, AV.int p13), (39, AV.bool true)], [], [], []⟩) (by kernel_rfl) ⟨getI_le hx19_2, ⟨_, getI_some hx19_2, rfl⟩, hg20, getI_le hx19_13, ⟨_, getI_some hx19_13, rfl⟩, hg21, trivial⟩ ?_
              exact hJ24 true _ h (Le.rfl')
            · rw [if_neg hg21] at h
              have hg21 := Bool.eq_false_iff.2 hg21
              obtain ⟨x19_18, hx19_18, h⟩ := Option.bind_eq_some_iff.1 h
              refine awp_reg kpNone [(2, AV.ik .u8 (x19_2.toNat : Int)), (13, AV.ik .u8 (x19_13.toNat : Int)), (18, AV.ik .u8 (x19_18.toNat : Int))] [(4, true), (15, false)] [0, 3, 39] (cs := [(0 ≤ p13), (∃ b, a0[Int.toNat p13]? = some b ∧ AV.ik .u8 (x19_2.toNat : Int) = .val (.int .u8 b.toNat)), (decide ((x19_2.toNat : Int) < (97 : Int)) = true), (0 ≤ p13), (∃ b, a0[Int.toNat p13]? = some b ∧ AV.ik .u8 (x19_13.toNat : Int) = .val (.int .u8 b.toNat)), (decide ((x19_13.toNat : Int) < (48 : Int)) = false), (0 ≤ p13), (∃ b, a0[Int.toNat p13]? = some b ∧ AV.ik .u8 (x19_18.toNat : Int) = .val (.int .u8 b.toNat))]) (st' := ⟨40, [(0, AV.str a0), (3, AV.int p13), (39, AV.bool (decide ((57 : Int) < (x19_18.toNat : Int))))], [], [], []⟩) (by kernel_rfl) ⟨getI_le hx19_2, ⟨_, getI_some hx19_2, rfl⟩, hg20, getI_le hx19_13, ⟨_, getI_some hx19_13, rfl⟩, hg21, getI_le hx19_18, ⟨_, getI_some hx19_18, rfl⟩, trivial⟩ ?_
              exact hJ24 (decide ((57 : Int) < (x19_18.toNat : Int))) _ h (Le.rfl')
          · rw [if_neg hg20] at h
            have hg20 := Bool.eq_false_iff.2 hg20
            obtain ⟨x19_7, hx19_7, h⟩ := Option.bind_eq_some_iff.1 h
            by_cases hg22 : decide ((122 : Int) < (x19_7.toNat : Int)) = true
            · rw [if_pos hg22] at h
              obtain ⟨x19_13, hx19_13, h⟩ := Option.bind_eq_some_iff.1 h
              by_cases hg23 : decide ((x19_13.toNat : Int) < (48 : Int)) = true
              · rw [if_pos hg23] at h
                refine awp_reg kpNone [(2, AV.ik .u8 (x19_2.toNat : Int)), (7, AV.ik .u8 (x19_7.toNat : Int)), (13, AV.ik .u8 (x19_13.toNat : Int))] [(4, false), (10, true), (15, true)] [0, 3, 39] (cs := [(0 ≤ p13), (∃ b, a0[Int.toNat p13]? = some b ∧ AV.ik .u8 (x19_2.toNat : Int) = .val (.int .u8 b.toNat)), (decide ((x19_2.toNat : Int) < (97 : Int)) = false), (0 ≤ p13), (∃ b, a0[Int.toNat p13]? = some b ∧ AV.ik .u8 (x19_7.toNat : Int) = .val (.int .u8 b.toNat)), (decide ((122 : Int) < (x19_7.toNat : Int)) = true), (0 ≤ p13), (∃ b, a0[Int.toNat p13]? = some b ∧ AV.ik .u8 (x19_13.toNat : Int) = .val (.int .u8 b.toNat)), (decide ((x19_13.toNat : Int) < (48 : Int)) = true)]) (st' := ⟨40, [(0, AV.str a0), (3, AV.int p13), (39, AV.bool true)], [], [], []⟩) (by kernel_rfl) ⟨getI_le hx19_2, ⟨_, getI_some hx19_2, rfl⟩, hg20, getI_le hx19_7, ⟨_, getI_some hx19_7, rfl⟩, hg22, getI_le hx19_13, ⟨_, getI_some hx19_13, rfl⟩, hg23, trivial⟩ ?_
                exact hJ24 true _ h (Le.rfl')
              · rw [if_neg hg23] at h
                have hg23 := Bool.eq_false_iff.2 hg23
                obtain ⟨x19_18, hx19_18, h⟩ := Option.bind_eq_some_iff.1 h
                refine awp_reg kpNone [(2, AV.ik .u8 (x19_2.toNat : Int)), (7, AV.ik .u8 (x19_7.toNat : Int)), (13, AV.ik .u8 (x19_13.toNat : Int)), (18, AV.ik .u8 (x19_18.toNat : Int))] [(4, false), (10, true), (15, false)] [0, 3, 39] (cs := [(0 ≤ p13), (∃ b, a0[Int.toNat p13]? = some b ∧ AV.ik .u8 (x19_2.toNat : Int) = .val (.int .u8 b.toNat)), (decide ((x19_2.toNat : Int) < (97 : Int)) = false), (0 ≤ p13), (∃ b, a0[Int.toNat p13]? = some b ∧ AV.ik .u8 (x19_7.toNat : Int) = .val (.int .u8 b.toNat)), (decide ((122 : Int) < (x19_7.toNat : Int)) = true), (0 ≤ p13), (∃ b, a0[Int.toNat p13]? = some b ∧ AV.ik .u8 (x19_13.toNat : Int) = .val (.int .u8 b.toNat)), (decide ((x19_13.toNat : Int) < (48 : Int)) = false), (0 ≤ p13), (∃ b, a0[Int.toNat p13]? = some b ∧ AV.ik .u8 (x19_18.toNat : Int) = .val (.int .u8 b.toNat))]) (st' := ⟨40, [(0, AV.str a0), (3, AV.int p13), (39, AV.bool (decide ((57 : Int) < (x19_18.toNat : Int))))], [], [], []⟩) (by kernel_rfl) ⟨getI_le hx19_2, ⟨_, getI_some hx19_2, rfl⟩, hg20, getI_le hx19_7, ⟨_, getI_some hx19_7, rfl⟩, hg22, getI_le hx19_13, ⟨_, getI_some hx19_13, rfl⟩, hg23, getI_le hx19_18, ⟨_, getI_some hx19_18, rfl⟩, trivial⟩ ?_
                exact hJ24 (decide ((57 : Int) < (x19_18.toNat : Int))) _ h (Le.rfl')
            · rw [if_neg hg22] at h
              have hg22 := Bool.eq_false_iff.2 hg22
              refine awp_reg kpNone [(2, AV.ik .u8 (x19_2.toNat : Int)), (7, AV.ik .u8 (x19_7.toNat : Int))] [(4, false), (10, false)] [0, 3, 39] (cs := [(0 ≤ p13), (∃ b, a0[Int.toNat p13]? = some b ∧ AV.ik .u8 (x19_2.toNat : Int) = .val (.int .u8 b.toNat)), (decide ((x19_2.toNat : Int) < (97 : Int)) = false), (0 ≤ p13), (∃ b, a0[Int.toNat p13]? = some b ∧ AV.ik .u8 (x19_7.toNat : Int) = .val (.int .u8 b.toNat)), (decide ((122 : Int) < (x19_7.toNat : Int)) = false)]) (st' := ⟨40, [(0, AV.str a0), (3, AV.int p13), (39, AV.bool false)], [], [], []⟩) (by kernel_rfl) ⟨getI_le hx19_2, ⟨_, getI_some hx19_2, rfl⟩, hg20, getI_le hx19_7, ⟨_, getI_some hx19_7, rfl⟩, hg22, trivial⟩ ?_
              exact hJ24 false _ h (Le.rfl')
      · rw [if_false hb] at h
        refine awp_exit ?_
        refine hN10 _ ?_
        refine awp_sr kpNone [] [] [2] (cs := []) (st' := ⟨40, [(2, AV.bool true)], [], [], []⟩) (by kernel_rfl) trivial ?_
        have h := Option.some.inj h
        subst h
        exact awp_ret ⟨[AV.bool true], by kernel_rfl, Lw.refl _⟩
  · by_cases hg6 : decide ((List.length a0 : Int) < (1 : Int)) = true
    · refine awp_reg kpNone [] [(3, true)] [0, 11] (cs := [(decide ((List.length a0 : Int) < (1 : Int)) = true)]) (st' := ⟨40, [(0, AV.str a0), (11, AV.bool true)], [], [], []⟩) (by kernel_rfl) ⟨hg6, trivial⟩ ?_
      exact hJ7 true _ (by first | rfl | (rw [hg6]; done) | (rw [hg6]; rfl) | (simp [hg6]; done) | (exfalso; revert hg6; simp; done) | (exfalso; revert hg6; simp; intros; assumption)) (Le.rfl')
    · have hg6 := Bool.eq_false_iff.2 hg6
      refine awp_reg kpNone [] [(3, false)] [0, 11] (cs := [(decide ((List.length a0 : Int) < (1 : Int)) = false)]) (st' := ⟨40, [(0, AV.str a0), (11, AV.bool (decide ((12 : Int) < (List.length a0 : Int))))], [], [], []⟩) (by kernel_rfl) ⟨hg6, trivial⟩ ?_
      exact hJ7 (decide ((12 : Int) < (List.length a0 : Int))) _ (by first | rfl | (rw [hg6]; done) | (rw [hg6]; rfl) | (simp [hg6]; done) | (exfalso; revert hg6; simp; done) | (exfalso; revert hg6; simp; intros; assumption)) (Le.rfl')
-- {"kind": "tot", "S": "isName", "thm": "d102"}
theorem d102 (a0 : Str) : Det Tryz.prog 102 [AV.str a0] (.ret (AV.bool (isName a0))) := by
  by_cases hs : a0.length ≤ maxLen
  · refine c102 a0 _ (rounds_list a0 hs (fun t => some (t.all nameB)) _ ?_ ?_) _ ?_
    · intro rec
      simp [F102.l13]
    · intro rec p x t h0 h1 hx hd hr hw
      simp only [F102.l13, F102.j24, hx, hw, hr, h1, decide_true, if_true, Option.bind_some, List.all_cons, nameB, decide_eq_true_eq]
      have e1 : ((x.toNat : Int) < 97) = (x.toNat < 97) := by simp; omega
      have e2 : ((122 : Int) < (x.toNat : Int)) = (122 < x.toNat) := by simp; omega
      have e3 : ((x.toNat : Int) < 48) = (x.toNat < 48) := by simp; omega
      have e4 : ((57 : Int) < (x.toNat : Int)) = (57 < x.toNat) := by simp; omega
      simp only [e1, e2, e3, e4]
      by_cases q1 : x.toNat < 97
      · by_cases q3 : x.toNat < 48
        · simp [q1, q3]; intro h; omega
        · by_cases q4 : 57 < x.toNat
          · simp [q1, q3, q4]; intro h; omega
          · have : x.toNat ≤ 57 := by omega
            have : 48 ≤ x.toNat := by omega
            simp [q1, q3, q4, *]
      · by_cases q2 : 122 < x.toNat
        · by_cases q3 : x.toNat < 48
          · omega
          · have : 57 < x.toNat := by omega
            simp [q1, q2, q3, this]; intro h; omega
        · have h97 : 97 ≤ x.toNat := by omega
          have : x.toNat ≤ 122 := by omega
          simp [q1, q2, h97, this]
    · simp only [F102, isName, Bool.or_eq_true, decide_eq_true_eq]
      by_cases q1 : 1 ≤ a0.length
      · by_cases q2 : a0.length ≤ 12
        · rw [if_neg (by omega)]; simp [q1, q2]
        · rw [if_pos (by omega)]; simp [q1, q2]
      · rw [if_pos (by omega)]; simp [q1]
  · refine c102 a0 _ (rounds_none _) _ ?_
    have hm : maxLen = 9223372036854775807 := rfl
    have q : ¬ a0.length ≤ 12 := by omega
    simp only [F102, isName, Bool.or_eq_true, decide_eq_true_eq]
    rw [if_pos (by omega)]; simp [q]


end Go.Proofs.Eng
