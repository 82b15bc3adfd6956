/- Printed walks and contracts. -/
import Derived.Test.YtdolhcmhdjmoeaaGreatDoorStrT5
set_option linter.unusedSimpArgs false
set_option linter.unusedVariables false
set_option maxRecDepth 100000
namespace Go.Proofs.Eng
open Go Go.Proofs Go.Sort
-- strat.bad$6
def F239.j6  : (Bool) → Option Bool := fun p6 =>
  some p6
def F239 (a0 : Pod) (a1 : Bool) (a2 : State) (a3 : Marks) : Option Bool :=
  if a1 = true then ((F92 a2 a0.Node a3).bind fun x4_6 => F239.j6 (decide (x4_6 = (0 : Int)))) else (F239.j6 false)
/-- ballast/strat.bad$6 -/
theorem c239 (a0 : Pod) (a1 : Bool) (a2 : State) (a3 : Marks) (r : Bool) (h : F239 a0 a1 a2 a3 = some r) :
    Det Tryz.prog 239 [Pod.av a0, .inp [AV.bool a1], .inp a2.cs, .inp [AV.fl a3.Low, AV.fl a3.High]] (.ret (AV.bool r)) := by
  refine Det.of_le ?_
  refine @calls_of_body Tryz.prog 239 Tryz.f239 _ Tryz.func239 rfl (by kernel_rfl) [.tmp 5] (by rw [Tryz.results239]) 15 Tryz.ntmps239 _ _ _ (by simp only [List.length_cons, List.length_nil]; decide) ?_
  unfold F239 at h
  refine awp_sr kpNone [] [] [1, 2, 3, 4] (cs := []) (st' := ⟨15, [(1, .inp [AV.bool a1]), (2, .inp a2.cs), (3, .inp [AV.fl a3.Low, AV.fl a3.High]), (4, .varp 4 0)], [(4, (false, a0.cs))], [], []⟩) (by kernel_rfl) trivial ?_
  refine awp_seq fun N3 hN3 => ?_
  refine awp_to (σ := Bool) (fun p6 => ⟨15, [(5, AV.bool p6)], [(4, (false, a0.cs))], [], []⟩) (fun p6 => F239.j6 p6 = some r) (fun p6 h => ?_) (fun N6 hJ6 => ?_)
  · unfold F239.j6 at h
    refine hN3 _ ?_
    have h := Option.some.inj h
    subst h
    exact awp_ret ⟨[AV.bool p6], by kernel_rfl, Lw.refl _⟩
  · by_cases hg5 : a1 = true
    · rw [if_pos hg5] at h
      obtain ⟨x4_6, hx4_6, h⟩ := Option.bind_eq_some_iff.1 h
      refine awp_reg kpNone [(6, AV.int x4_6)] [(1, true)] [5] (cs := [(a1 = true), (Det Tryz.prog 92 [State.av a2, AV.str a0.Node, Marks.av a3] (.ret (AV.int x4_6)))]) (st' := ⟨15, [(5, AV.bool (decide (x4_6 = (0 : Int))))], [(4, (false, a0.cs))], [], []⟩) (by kernel_rfl) ⟨hg5, c92 a2 a0.Node a3 _ hx4_6, trivial⟩ ?_
      exact hJ6 (decide (x4_6 = (0 : Int))) _ h (Le.rfl')
    · rw [if_neg hg5] at h
      have hg5 := Bool.eq_false_iff.2 hg5
      refine awp_reg kpNone [] [(1, false)] [5] (cs := [(a1 = false)]) (st' := ⟨15, [(5, AV.bool false)], [(4, (false, a0.cs))], [], []⟩) (by kernel_rfl) ⟨hg5, trivial⟩ ?_
      exact hJ6 false _ h (Le.rfl')


-- strat.bad$7
def F240 (a0 : Pod) : Option Bool :=
  some false
/-- ballast/strat.bad$7 -/
theorem c240 (a0 : Pod) (r : Bool) (h : F240 a0 = some r) :
    Det Tryz.prog 240 [Pod.av a0] (.ret (AV.bool r)) := by
  refine Det.of_le ?_
  refine @calls_of_body Tryz.prog 240 Tryz.f240 _ Tryz.func240 rfl (by kernel_rfl) [.tmp 2] (by rw [Tryz.results240]) 3 Tryz.ntmps240 _ _ _ (by simp only [List.length_cons, List.length_nil]; decide) ?_
  unfold F240 at h
  refine awp_sr kpNone [] [] [] (cs := []) (st' := ⟨3, [], [(1, (false, a0.cs))], [], []⟩) (by kernel_rfl) trivial ?_
  refine awp_sr kpNone [] [] [2] (cs := []) (st' := ⟨3, [(2, AV.bool false)], [(1, (false, a0.cs))], [], []⟩) (by kernel_rfl) trivial ?_
  have h := Option.some.inj h
  subst h
  exact awp_ret ⟨[AV.bool false], by kernel_rfl, Lw.refl _⟩


-- strat.bad
def F135 (a0 : State) (a1 : Int) (a2 : Marks) : Option ((FuncId × List AV) × (Pod → Option Bool)) :=
  if decide (a1 = (1 : Int)) = true then (some ((229, [.inp a0.cs]), (fun y0 => F229 y0 a0))) else (if decide (a1 = (2 : Int)) = true then ((A230 a0).bind fun x13_1 => some ((231, [.inp [AV.lst 1 AV.str x13_1]]), (fun y0 => F231 y0 x13_1))) else (if decide (a1 = (3 : Int)) = true then (some ((233, [.inp a0.cs]), (fun y0 => F233 y0 a0))) else (if decide (a1 = (4 : Int)) = true then (some ((236, [.inp a0.cs, .inp [AV.fl a2.Low, AV.fl a2.High]]), (fun y0 => F236 y0 a0 a2))) else (if decide (a1 = (5 : Int)) = true then (((fun l g => anyF g l) a0.Nodes (fun y0 => F238 y0 a0 a2)).bind fun x27_3 => some ((239, [.inp [AV.bool x27_3], .inp a0.cs, .inp [AV.fl a2.Low, AV.fl a2.High]]), (fun y0 => F239 y0 x27_3 a0 a2))) else (some ((240, []), (fun y0 => F240 y0)))))))
/-- ballast/strat.bad -/
theorem c135 (a0 : State) (a1 : Int) (a2 : Marks) (r : ((FuncId × List AV) × (Pod → Option Bool))) (h : F135 a0 a1 a2 = some r) :
    Det Tryz.prog 135 [State.av a0, AV.int a1, Marks.av a2] (.ret (.func r.1.1 r.1.2)) := by
  refine Det.of_le ?_
  refine @calls_of_body Tryz.prog 135 Tryz.f135 _ Tryz.func135 rfl (by kernel_rfl) [.tmp 6] (by rw [Tryz.results135]) 31 Tryz.ntmps135 _ _ _ (by simp only [List.length_cons, List.length_nil]; decide) ?_
  unfold F135 at h
  refine awp_sr kpNone [] [] [1, 3, 5] (cs := []) (st' := ⟨31, [(1, AV.int a1), (3, .varp 3 0), (5, .varp 5 0)], [(5, (false, [AV.fl a2.Low, AV.fl a2.High])), (3, (false, a0.cs))], [], []⟩) (by kernel_rfl) trivial ?_
  refine awp_seq fun N3 hN3 => ?_
  refine awp_sr kpNone [] [] [3, 5, 9] (cs := []) (st' := ⟨31, [(3, .varp 3 0), (5, .varp 5 0), (9, AV.int a1)], [(5, (false, [AV.fl a2.Low, AV.fl a2.High])), (3, (false, a0.cs))], [], []⟩) (by kernel_rfl) trivial ?_
  refine awp_block ?_
  refine awp_sr kpNone [] [] [3, 5, 9, 10] (cs := []) (st' := ⟨31, [(3, .varp 3 0), (5, .varp 5 0), (9, AV.int a1), (10, AV.bool (decide (a1 = (1 : Int))))], [(5, (false, [AV.fl a2.Low, AV.fl a2.High])), (3, (false, a0.cs))], [], []⟩) (by kernel_rfl) trivial ?_
  refine awp_cond (t := decide (a1 = (1 : Int))) rfl (fun hb => ?_) (fun hb => ?_)
  · rw [if_pos hb] at h
    refine awp_sr kpNone [] [] [6] (cs := []) (st' := ⟨31, [(6, .func 229 [.inp a0.cs])], [(3, (true, a0.cs)), (5, (false, [AV.fl a2.Low, AV.fl a2.High]))], [], []⟩) (by kernel_rfl) trivial ?_
    have h := Option.some.inj h
    subst h
    exact awp_ret ⟨[.func 229 [.inp a0.cs]], by kernel_rfl, Lw.refl _⟩
  · rw [if_false hb] at h
    refine awp_sr kpNone [] [] [3, 5, 9, 13] (cs := []) (st' := ⟨31, [(3, .varp 3 0), (5, .varp 5 0), (9, AV.int a1), (13, AV.bool (decide (a1 = (2 : Int))))], [(5, (false, [AV.fl a2.Low, AV.fl a2.High])), (3, (false, a0.cs))], [], []⟩) (by kernel_rfl) trivial ?_
    refine awp_cond (t := decide (a1 = (2 : Int))) rfl (fun hb => ?_) (fun hb => ?_)
    · rw [if_pos hb] at h
      obtain ⟨x13_1, hx13_1, h⟩ := Option.bind_eq_some_iff.1 h
      refine awp_sr kpNone [(1, AV.lst 1 AV.str x13_1)] [] [7] (cs := [(Det Tryz.prog 230 [State.av a0] (.ret (AV.lst 1 AV.str x13_1)))]) (st' := ⟨31, [(7, .varp 7 0)], [(7, (false, [AV.lst 1 AV.str x13_1])), (5, (false, [AV.fl a2.Low, AV.fl a2.High])), (3, (false, a0.cs))], [], []⟩) (by kernel_rfl) ⟨d230 a0 _ hx13_1, trivial⟩ ?_
      refine awp_sr kpNone [] [] [6] (cs := []) (st' := ⟨31, [(6, .func 231 [.inp [AV.lst 1 AV.str x13_1]])], [(7, (true, [AV.lst 1 AV.str x13_1])), (5, (false, [AV.fl a2.Low, AV.fl a2.High])), (3, (false, a0.cs))], [], []⟩) (by kernel_rfl) trivial ?_
      have h := Option.some.inj h
      subst h
      exact awp_ret ⟨[.func 231 [.inp [AV.lst 1 AV.str x13_1]]], by kernel_rfl, Lw.refl _⟩
    · rw [if_false hb] at h
      refine awp_sr kpNone [] [] [3, 5, 9, 18] (cs := []) (st' := ⟨31, [(3, .varp 3 0), (5, .varp 5 0), (9, AV.int a1), (18, AV.bool (decide (a1 = (3 : Int))))], [(5, (false, [AV.fl a2.Low, AV.fl a2.High])), (3, (false, a0.cs))], [], []⟩) (by kernel_rfl) trivial ?_
      refine awp_cond (t := decide (a1 = (3 : Int))) rfl (fun hb => ?_) (fun hb => ?_)
      · rw [if_pos hb] at h
        refine awp_sr kpNone [] [] [6] (cs := []) (st' := ⟨31, [(6, .func 233 [.inp a0.cs])], [(3, (true, a0.cs)), (5, (false, [AV.fl a2.Low, AV.fl a2.High]))], [], []⟩) (by kernel_rfl) trivial ?_
        have h := Option.some.inj h
        subst h
        exact awp_ret ⟨[.func 233 [.inp a0.cs]], by kernel_rfl, Lw.refl _⟩
      · rw [if_false hb] at h
        refine awp_sr kpNone [] [] [3, 5, 9, 21] (cs := []) (st' := ⟨31, [(3, .varp 3 0), (5, .varp 5 0), (9, AV.int a1), (21, AV.bool (decide (a1 = (4 : Int))))], [(5, (false, [AV.fl a2.Low, AV.fl a2.High])), (3, (false, a0.cs))], [], []⟩) (by kernel_rfl) trivial ?_
        refine awp_cond (t := decide (a1 = (4 : Int))) rfl (fun hb => ?_) (fun hb => ?_)
        · rw [if_pos hb] at h
          refine awp_sr kpNone [] [] [6] (cs := []) (st' := ⟨31, [(6, .func 236 [.inp a0.cs, .inp [AV.fl a2.Low, AV.fl a2.High]])], [(5, (true, [AV.fl a2.Low, AV.fl a2.High])), (3, (true, a0.cs))], [], []⟩) (by kernel_rfl) trivial ?_
          have h := Option.some.inj h
          subst h
          exact awp_ret ⟨[.func 236 [.inp a0.cs, .inp [AV.fl a2.Low, AV.fl a2.High]]], by kernel_rfl, Lw.refl _⟩
        · rw [if_false hb] at h
          refine awp_sr kpNone [] [] [3, 5, 24] (cs := []) (st' := ⟨31, [(3, .varp 3 0), (5, .varp 5 0), (24, AV.bool (decide (a1 = (5 : Int))))], [(5, (false, [AV.fl a2.Low, AV.fl a2.High])), (3, (false, a0.cs))], [], []⟩) (by kernel_rfl) trivial ?_
          refine awp_cond (t := decide (a1 = (5 : Int))) rfl (fun hb => ?_) (fun hb => ?_)
          · rw [if_pos hb] at h
            obtain ⟨x27_3, hx27_3, h⟩ := Option.bind_eq_some_iff.1 h
            refine awp_sr kpNone [(3, AV.bool x27_3)] [] [3, 5, 8] (cs := [(Det Tryz.prog 237 [AV.lst 5 Node.av a0.Nodes, .func 238 [.inp a0.cs, .inp [AV.fl a2.Low, AV.fl a2.High]]] (.ret (AV.bool x27_3)))]) (st' := ⟨31, [(3, .varp 3 0), (5, .varp 5 0), (8, .varp 8 0)], [(8, (false, [AV.bool x27_3])), (5, (true, [AV.fl a2.Low, AV.fl a2.High])), (3, (true, a0.cs))], [], []⟩) (by kernel_rfl) ⟨d237 a0.Nodes (fun y0 => F238 y0 a0 a2) 238 [.inp a0.cs, .inp [AV.fl a2.Low, AV.fl a2.High]] rfl (fun y0 _ hy => c238 y0 a0 a2 _ hy) _ hx27_3, trivial⟩ ?_
            refine awp_sr kpNone [] [] [6] (cs := []) (st' := ⟨31, [(6, .func 239 [.inp [AV.bool x27_3], .inp a0.cs, .inp [AV.fl a2.Low, AV.fl a2.High]])], [(5, (true, [AV.fl a2.Low, AV.fl a2.High])), (3, (true, a0.cs)), (8, (true, [AV.bool x27_3]))], [], []⟩) (by kernel_rfl) trivial ?_
            have h := Option.some.inj h
            subst h
            exact awp_ret ⟨[.func 239 [.inp [AV.bool x27_3], .inp a0.cs, .inp [AV.fl a2.Low, AV.fl a2.High]]], by kernel_rfl, Lw.refl _⟩
          · rw [if_false hb] at h
            refine awp_skip ?_
            refine hN3 _ ?_
            refine awp_sr kpNone [] [] [6] (cs := []) (st' := ⟨31, [(6, .func 240 [])], [(5, (false, [AV.fl a2.Low, AV.fl a2.High])), (3, (false, a0.cs))], [], []⟩) (by kernel_rfl) trivial ?_
            have h := Option.some.inj h
            subst h
            exact awp_ret ⟨[.func 240 []], by kernel_rfl, Lw.refl _⟩
theorem g135 (a0 : State) (a1 : Int) (a2 : Marks) (r : ((FuncId × List AV) × (Pod → Option Bool))) (h : F135 a0 a1 a2 = some r) :
    List.map AV.cl0 r.1.2 = r.1.2 ∧ ∀ (y0 : Pod) (b : Bool), r.2 y0 = some b → Det Tryz.prog r.1.1 ((Pod.av y0) :: List.map AV.cl r.1.2) (.ret (AV.bool b)) := by
  simp only [F135] at h
  repeat' (first | split at h | (rw [Option.bind_eq_some_iff] at h; obtain ⟨_, _, h⟩ := h))
  all_goals (try contradiction)
  all_goals (have h := Option.some.inj h; subst h; refine ⟨rfl, ?_⟩; first | exact (fun y0 _ hy => c229 y0 _ _ hy) | exact (fun y0 _ hy => c231 y0 _ _ hy) | exact (fun y0 _ hy => c233 y0 _ _ hy) | exact (fun y0 _ hy => c236 y0 _ _ _ hy) | exact (fun y0 _ hy => c239 y0 _ _ _ _ hy) | exact (fun y0 _ hy => c240 y0 _ hy))


-- strat.One
def F46.j22 (rec10 : (List Str × Int) → Option (List Str)) (p10 : List Str × Int) : (List Str) → Option (List Str) := fun p22 =>
  rec10 (p22, w64 (p10.2 + (1 : Int)))
def F46.j21 (p10 : List Str × Int) (x16_0 : Pod) (rec10 : (List Str × Int) → Option (List Str)) : (Bool) → Option (List Str) := fun p21 =>
  if p21 = true then (if fits 16 (List.length (p10.1 ++ [x16_0.Name])) then (F46.j22 rec10 p10 (p10.1 ++ [x16_0.Name])) else none) else (F46.j22 rec10 p10 p10.1)
def F46.l10 (a0 : State) (x4_3 : ((FuncId × List AV) × (Pod → Option Bool))) (rec10 : (List Str × Int) → Option (List Str)) : (List Str × Int) → Option (List Str) := fun p10 =>
  if decide (p10.2 < (List.length a0.Pods : Int)) = true then ((getI a0.Pods p10.2).bind fun x16_0 => if decide (¬ x16_0.Node = []) = true then (if (!x16_0.Hold) = true then ((x4_3.2 x16_0).bind fun x18_11 => F46.j21 p10 x16_0 rec10 x18_11) else (F46.j21 p10 x16_0 rec10 false)) else (F46.j21 p10 x16_0 rec10 false)) else (some p10.1)
def F46 (l10 : (((FuncId × List AV) × (Pod → Option Bool))) → (List Str × Int) → Option (List Str)) (a0 : State) (a1 : Int) (a2 : Marks) : Option (List Str) :=
  (F135 a0 a1 a2).bind fun x4_3 => l10 x4_3 (([] : List Str), 0)
/-- ballast/strat.One -/
theorem c46 (a0 : State) (a1 : Int) (a2 : Marks) (l10 : (((FuncId × List AV) × (Pod → Option Bool))) → (List Str × Int) → Option (List Str)) (hl10 : ∀ (x4_3 : ((FuncId × List AV) × (Pod → Option Bool))), Rounds (F46.l10 a0 x4_3) (l10 x4_3)) (r : (List Str)) (h : F46 l10 a0 a1 a2 = some r) :
    Det Tryz.prog 46 [State.av a0, AV.int a1, Marks.av a2] (.ret (AV.lst 1 AV.str r)) := by
  refine Det.of_le ?_
  refine @calls_of_body Tryz.prog 46 Tryz.f46 _ Tryz.func46 rfl (by kernel_rfl) [.tmp 6] (by rw [Tryz.results46]) 42 Tryz.ntmps46 _ _ _ (by simp only [List.length_cons, List.length_nil]; decide) ?_
  unfold F46 at h
  refine awp_sr kpNone [] [] [1, 3, 5] (cs := []) (st' := ⟨42, [(1, AV.int a1), (3, .varp 3 0), (5, .varp 5 0)], [(5, (false, [AV.fl a2.Low, AV.fl a2.High])), (3, (false, a0.cs))], [], []⟩) (by kernel_rfl) trivial ?_
  obtain ⟨x4_3, hx4_3, h⟩ := Option.bind_eq_some_iff.1 h
  refine awp_sr kpNone [(3, .func x4_3.1.1 x4_3.1.2)] [] [3, 7] (cs := [(Det Tryz.prog 135 [State.av a0, AV.int a1, Marks.av a2] (.ret (.func x4_3.1.1 x4_3.1.2)))]) (st' := ⟨42, [(3, .varp 3 0), (7, .func x4_3.1.1 x4_3.1.2)], [(5, (false, [AV.fl a2.Low, AV.fl a2.High])), (3, (false, a0.cs))], [], []⟩) (by kernel_rfl) ⟨c135 a0 a1 a2 _ hx4_3, trivial⟩ ?_
  refine awp_sr kpNone [] [] [3, 7, 8] (cs := []) (st' := ⟨42, [(3, .varp 3 0), (7, .func x4_3.1.1 x4_3.1.2), (8, .nils)], [(5, (false, [AV.fl a2.Low, AV.fl a2.High])), (3, (false, a0.cs))], [], []⟩) (by kernel_rfl) trivial ?_
  refine awp_seq fun N7 hN7 => ?_
  refine awp_sr kpNone [(2, AV.int (List.length a0.Pods : Int))] [] [7, 8, 16, 17, 18] (cs := [((AV.int (List.length a0.Pods : Int) = .val (.int .i64 (List.length (List.map Pod.av a0.Pods) : Int))))]) (st' := ⟨42, [(7, .func x4_3.1.1 x4_3.1.2), (8, .nils), (16, AV.lst 11 Pod.av a0.Pods), (17, AV.int (List.length a0.Pods : Int)), (18, AV.int 0)], [(5, (false, [AV.fl a2.Low, AV.fl a2.High])), (3, (false, a0.cs))], [], []⟩) (by kernel_rfl) ⟨len_map _ _, trivial⟩ ?_
  refine awp_block ?_
  refine awp_loop ?_
  refine awpL_le (st' := ⟨42, [(7, .func x4_3.1.1 x4_3.1.2), (8, .slice (.own 39) 1 (List.map AV.str ([] : List Str))), (16, AV.lst 11 Pod.av a0.Pods), (17, AV.int (List.length a0.Pods : Int)), (18, AV.int 0)], [], [], [(39, (9, 1, List.length (List.map AV.str ([] : List Str))))]⟩) ?_ ?_
  · exact Le.mk rfl ⟨⟨rfl, vleL_cl0 (g135 a0 a1 a2 _ hx4_3).1⟩, .inr ⟨rfl, rfl, rfl⟩, .inl rfl, rfl, rfl, trivial⟩ trivial ⟨⟨rfl, by decide⟩, trivial⟩ trivial
  refine awpL_fix (hl10 x4_3) r (fun p10 => ⟨42, [(7, .func x4_3.1.1 x4_3.1.2), (8, .slice (.own 39) 1 (List.map AV.str p10.1)), (16, AV.lst 11 Pod.av a0.Pods), (17, AV.int (List.length a0.Pods : Int)), (18, AV.int p10.2)], [], [], [(39, (9, 1, List.length (List.map AV.str p10.1)))]⟩) (fun rec10 hrec10 p10 h => ?_) (([] : List Str), 0) h
  unfold F46.l10 at h
  refine awpL_round ?_
  refine awp_sr kpNone [] [] [7, 8, 16, 17, 18, 19] (cs := []) (st' := ⟨42, [(7, .func x4_3.1.1 x4_3.1.2), (8, .slice (.own 39) 1 (List.map AV.str p10.1)), (16, AV.lst 11 Pod.av a0.Pods), (17, AV.int (List.length a0.Pods : Int)), (18, AV.int p10.2), (19, AV.bool (decide (p10.2 < (List.length a0.Pods : Int))))], [], [], [(39, (9, 1, List.length (List.map AV.str p10.1)))]⟩) (by kernel_rfl) trivial ?_
  refine awp_seq fun N13 hN13 => ?_
  refine awp_cond (t := decide (p10.2 < (List.length a0.Pods : Int))) rfl (fun hb => ?_) (fun hb => ?_)
  · rw [if_pos hb] at h
    refine awp_skip ?_
    refine hN13 _ ?_
    refine awp_seq fun N14 hN14 => ?_
    refine awp_block ?_
    obtain ⟨x16_0, hx16_0, h⟩ := Option.bind_eq_some_iff.1 h
    refine awp_sr kpNone [(0, Pod.av x16_0)] [] [7, 8, 10, 16, 17, 18] (cs := [(0 ≤ p10.2), ((List.map Pod.av a0.Pods)[Int.toNat p10.2]? = some (Pod.av x16_0))]) (st' := ⟨42, [(7, .func x4_3.1.1 x4_3.1.2), (8, .slice (.own 39) 1 (List.map AV.str p10.1)), (10, .varp 10 0), (16, AV.lst 11 Pod.av a0.Pods), (17, AV.int (List.length a0.Pods : Int)), (18, AV.int p10.2)], [(10, (false, x16_0.cs))], [], [(39, (9, 1, List.length (List.map AV.str p10.1)))]⟩) (by kernel_rfl) ⟨getI_le hx16_0, getI_map hx16_0 _, trivial⟩ ?_
    refine awp_seq fun N17 hN17 => ?_
    refine awp_to (σ := Bool) (fun p21 => ⟨42, [(7, .func x4_3.1.1 x4_3.1.2), (8, .slice (.own 39) 1 (List.map AV.str p10.1)), (10, .varp 10 0), (16, AV.lst 11 Pod.av a0.Pods), (17, AV.int (List.length a0.Pods : Int)), (18, AV.int p10.2), (34, AV.bool p21)], [(10, (false, x16_0.cs))], [], [(39, (9, 1, List.length (List.map AV.str p10.1)))]⟩) (fun p21 => F46.j21 p10 x16_0 rec10 p21 = some r) (fun p21 h => ?_) (fun N21 hJ21 => ?_)
    · unfold F46.j21 at h
      refine hN17 _ ?_
      refine awp_to (σ := List Str) (fun p22 => ⟨42, [(7, .func x4_3.1.1 x4_3.1.2), (8, .slice (.own 39) 1 (List.map AV.str p22)), (16, AV.lst 11 Pod.av a0.Pods), (17, AV.int (List.length a0.Pods : Int)), (18, AV.int p10.2)], [(10, (false, x16_0.cs))], [], [(39, (9, 1, List.length (List.map AV.str p22)))]⟩) (fun p22 => F46.j22 rec10 p10 p22 = some r) (fun p22 h => ?_) (fun N22 hJ22 => ?_)
      · unfold F46.j22 at h
        refine hN14 _ ?_
        refine awp_reg kpNone [] [] [7, 8, 16, 17, 18] (cs := []) (st' := ⟨42, [(7, .func x4_3.1.1 x4_3.1.2), (8, .slice (.own 39) 1 (List.map AV.str p22)), (16, AV.lst 11 Pod.av a0.Pods), (17, AV.int (List.length a0.Pods : Int)), (18, AV.int (w64 (p10.2 + (1 : Int))))], [(10, (false, x16_0.cs))], [], [(39, (9, 1, List.length (List.map AV.str p22)))]⟩) (by kernel_rfl) trivial ?_
        refine awpL_le ?_ (hrec10 _ h)
        exact Le.mk rfl ⟨⟨rfl, vleL_cl0 (g135 a0 a1 a2 _ hx4_3).1⟩, .inl ⟨rfl, rfl⟩, .inl rfl, rfl, rfl, trivial⟩ trivial ⟨rfl, trivial⟩ trivial
      · refine awp_cond (t := p21) rfl (fun hb => ?_) (fun hb => ?_)
        · rw [if_pos hb] at h
          obtain ⟨hp24_4, h⟩ := guardP h
          refine awp_reg kpNone [(4, AV.lst 1 AV.str (p10.1 ++ [x16_0.Name]))] [] [7, 8, 16, 17, 18] (cs := [(List.length (List.map AV.str p10.1) = List.length (List.map AV.str p10.1)), (List.length (List.map AV.str (p10.1 ++ [x16_0.Name])) * 16 ≤ 140737488355328), (List.length (List.map AV.str (p10.1 ++ [x16_0.Name])) ≤ 140737488355328), (List.map AV.str p10.1 ++ List.map AV.str [x16_0.Name] = List.map AV.str (p10.1 ++ [x16_0.Name]))]) (st' := ⟨42, [(7, .func x4_3.1.1 x4_3.1.2), (8, .slice (.own 39) 1 (List.map AV.str (p10.1 ++ [x16_0.Name]))), (16, AV.lst 11 Pod.av a0.Pods), (17, AV.int (List.length a0.Pods : Int)), (18, AV.int p10.2)], [(10, (false, x16_0.cs))], [], [(39, (9, 1, List.length (List.map AV.str (p10.1 ++ [x16_0.Name])))), (38, (9, 1, 1))]⟩) (by kernel_rfl) ⟨by simp only [List.length_map, List.length_cons, List.length_nil], len_mul _ _ _ _ hp24_4.1, len_ge _ _ hp24_4.2, lst_app _ _ _, trivial⟩ ?_
          exact hJ22 (p10.1 ++ [x16_0.Name]) _ h (Le.mk rfl ⟨⟨rfl, vleL_cl0 (g135 a0 a1 a2 _ hx4_3).1⟩, .inl ⟨rfl, rfl⟩, .inl rfl, rfl, rfl, trivial⟩ ⟨⟨rfl, ⟨rfl, rfl, rfl, .inl rfl, .inl rfl, .inl rfl, .inl rfl, rfl, rfl, rfl, rfl, trivial⟩⟩, trivial⟩ ⟨rfl, trivial⟩ trivial)
        · rw [if_false hb] at h
          refine awp_skip ?_
          exact hJ22 p10.1 _ h (Le.mk rfl ⟨⟨rfl, vleL_cl0 (g135 a0 a1 a2 _ hx4_3).1⟩, .inl ⟨rfl, rfl⟩, .inl rfl, rfl, rfl, trivial⟩ ⟨⟨rfl, ⟨rfl, rfl, rfl, .inl rfl, .inl rfl, .inl rfl, .inl rfl, rfl, rfl, rfl, rfl, trivial⟩⟩, trivial⟩ ⟨rfl, trivial⟩ trivial)
    · by_cases hg19 : decide (¬ x16_0.Node = []) = true
      · rw [if_pos hg19] at h
        by_cases hg20 : (!x16_0.Hold) = true
        · rw [if_pos hg20] at h
          obtain ⟨x18_11, hx18_11, h⟩ := Option.bind_eq_some_iff.1 h
          refine awp_reg kpNone [(11, AV.bool x18_11)] [(3, true), (8, true)] [7, 8, 10, 16, 17, 18, 34] (cs := [(decide (¬ x16_0.Node = []) = true), ((!x16_0.Hold) = true), (Det Tryz.prog x4_3.1.1 ((Pod.av x16_0) :: List.map AV.cl x4_3.1.2) (.ret (AV.bool x18_11)))]) (st' := ⟨42, [(7, .func x4_3.1.1 x4_3.1.2), (8, .slice (.own 39) 1 (List.map AV.str p10.1)), (10, .varp 10 0), (16, AV.lst 11 Pod.av a0.Pods), (17, AV.int (List.length a0.Pods : Int)), (18, AV.int p10.2), (34, AV.bool x18_11)], [(10, (false, x16_0.cs))], [], [(39, (9, 1, List.length (List.map AV.str p10.1)))]⟩) (by kernel_rfl) ⟨hg19, hg20, (g135 a0 a1 a2 _ hx4_3).2 x16_0 _ hx18_11, trivial⟩ ?_
          exact hJ21 x18_11 _ h (Le.rfl')
        · rw [if_neg hg20] at h
          have hg20 := Bool.eq_false_iff.2 hg20
          refine awp_reg kpNone [] [(3, true), (8, false)] [7, 8, 10, 16, 17, 18, 34] (cs := [(decide (¬ x16_0.Node = []) = true), ((!x16_0.Hold) = false)]) (st' := ⟨42, [(7, .func x4_3.1.1 x4_3.1.2), (8, .slice (.own 39) 1 (List.map AV.str p10.1)), (10, .varp 10 0), (16, AV.lst 11 Pod.av a0.Pods), (17, AV.int (List.length a0.Pods : Int)), (18, AV.int p10.2), (34, AV.bool false)], [(10, (false, x16_0.cs))], [], [(39, (9, 1, List.length (List.map AV.str p10.1)))]⟩) (by kernel_rfl) ⟨hg19, hg20, trivial⟩ ?_
          exact hJ21 false _ h (Le.rfl')
      · rw [if_neg hg19] at h
        have hg19 := Bool.eq_false_iff.2 hg19
        refine awp_reg kpNone [] [(3, false)] [7, 8, 10, 16, 17, 18, 34] (cs := [(decide (¬ x16_0.Node = []) = false)]) (st' := ⟨42, [(7, .func x4_3.1.1 x4_3.1.2), (8, .slice (.own 39) 1 (List.map AV.str p10.1)), (10, .varp 10 0), (16, AV.lst 11 Pod.av a0.Pods), (17, AV.int (List.length a0.Pods : Int)), (18, AV.int p10.2), (34, AV.bool false)], [(10, (false, x16_0.cs))], [], [(39, (9, 1, List.length (List.map AV.str p10.1)))]⟩) (by kernel_rfl) ⟨hg19, trivial⟩ ?_
        exact hJ21 false _ h (Le.rfl')
  · rw [if_false hb] at h
    refine awp_exit ?_
    refine hN7 _ ?_
    refine awp_sr kpNone [] [] [6] (cs := []) (st' := ⟨42, [(6, .slice (.own 39) 1 (List.map AV.str p10.1))], [], [], [(39, (9, 1, List.length (List.map AV.str p10.1)))]⟩) (by kernel_rfl) trivial ?_
    have h := Option.some.inj h
    subst h
    exact awp_ret ⟨[.slice (.own 39) 1 (List.map AV.str p10.1)], by kernel_rfl, Lw.refl _⟩
def A46.l10 (a0 : State) (a1 : Int) (a2 : Marks) (x4_3 : ((FuncId × List AV) × (Pod → Option Bool))) : (List Str × Int) → Option (List Str) := iterL (F46.l10 a0 x4_3) 4096
def A46 (a0 : State) (a1 : Int) (a2 : Marks) : Option (List Str) := F46 (A46.l10 a0 a1 a2) a0 a1 a2
theorem d46 (a0 : State) (a1 : Int) (a2 : Marks) (r : (List Str)) (h : A46 a0 a1 a2 = some r) :
    Det Tryz.prog 46 [State.av a0, AV.int a1, Marks.av a2] (.ret (AV.lst 1 AV.str r)) := by
  exact c46 a0 a1 a2 (A46.l10 a0 a1 a2) (fun _ => rounds_iter _ _) r h


-- strat.All$1
def F142 (a0 : Found) (a1 : Str) : Option Bool :=
  some (decide (a0.Pod = a1))
/-- ballast/strat.All$1 -/
theorem c142 (a0 : Found) (a1 : Str) (r : Bool) (h : F142 a0 a1 = some r) :
    Det Tryz.prog 142 [Found.av a0, .inp [AV.str a1]] (.ret (AV.bool r)) := by
  refine Det.of_le ?_
  refine @calls_of_body Tryz.prog 142 Tryz.f142 _ Tryz.func142 rfl (by kernel_rfl) [.tmp 3] (by rw [Tryz.results142]) 8 Tryz.ntmps142 _ _ _ (by simp only [List.length_cons, List.length_nil]; decide) ?_
  unfold F142 at h
  refine awp_sr kpNone [] [] [1, 2] (cs := []) (st' := ⟨8, [(1, .inp [AV.str a1]), (2, .varp 2 0)], [(2, (false, [AV.str a0.Pod, AV.int a0.Why]))], [], []⟩) (by kernel_rfl) trivial ?_
  refine awp_sr kpNone [] [] [3] (cs := []) (st' := ⟨8, [(3, AV.bool (decide (a0.Pod = a1)))], [(2, (false, [AV.str a0.Pod, AV.int a0.Why]))], [], []⟩) (by kernel_rfl) trivial ?_
  have h := Option.some.inj h
  subst h
  exact awp_ret ⟨[AV.bool (decide (a0.Pod = a1))], by kernel_rfl, Lw.refl _⟩


-- slices.IndexFunc[[]strat.Found,strat.Found]
def F243.l6 (a0 : (List Found)) (g1 : Found → Option Bool) (rec6 : (Int) → Option Int) : (Int) → Option Int := fun p6 =>
  if decide (p6 < (List.length a0 : Int)) = true then ((getI a0 p6).bind fun x14_3 => (g1 x14_3).bind fun x14_5 => if x14_5 = true then (some p6) else (rec6 (w64 (p6 + (1 : Int))))) else (some (-1))
def F243 (l6 : (Int) → Option Int) (a0 : (List Found)) (g1 : Found → Option Bool) : Option Int :=
  l6 0
/-- slices.IndexFunc[[]ballast/strat.Found,ballast/strat.Found] -/
theorem c243 (a0 : (List Found)) (g1 : Found → Option Bool) (gf1 : FuncId) (gc1 : List AV) (hc1 : List.map AV.cl0 gc1 = gc1) (hg1 : ∀ (y0 : Found) (r : Bool), g1 y0 = some r → Det Tryz.prog gf1 ((Found.av y0) :: List.map AV.cl gc1) (.ret (AV.bool r))) (l6 : (Int) → Option Int) (hl6 : Rounds (F243.l6 a0 g1) (l6)) (r : Int) (h : F243 l6 a0 g1 = some r) :
    Det Tryz.prog 243 [AV.lst 2 Found.av a0, .func gf1 gc1] (.ret (AV.int r)) := by
  refine Det.of_le ?_
  refine @calls_of_body Tryz.prog 243 Tryz.f243 _ Tryz.func243 rfl (by kernel_rfl) [.tmp 4] (by rw [Tryz.results243]) 19 Tryz.ntmps243 _ _ _ (by simp only [List.length_cons, List.length_nil]; decide) ?_
  unfold F243 at h
  refine awp_sr kpNone [] [] [0, 1] (cs := []) (st' := ⟨19, [(0, AV.lst 2 Found.av a0), (1, .func gf1 gc1)], [], [], []⟩) (by kernel_rfl) trivial ?_
  refine awp_seq fun N3 hN3 => ?_
  refine awp_sr kpNone [(1, AV.int (List.length a0 : Int))] [] [0, 1, 7, 8] (cs := [((AV.int (List.length a0 : Int) = .val (.int .i64 (List.length (List.map Found.av a0) : Int))))]) (st' := ⟨19, [(0, AV.lst 2 Found.av a0), (1, .func gf1 gc1), (7, AV.int (List.length a0 : Int)), (8, AV.int 0)], [], [], []⟩) (by kernel_rfl) ⟨len_map _ _, trivial⟩ ?_
  refine awp_block ?_
  refine awp_loop ?_
  refine awpL_le (st' := ⟨19, [(0, AV.lst 2 Found.av a0), (1, .func gf1 gc1), (7, AV.int (List.length a0 : Int)), (8, AV.int 0)], [], [], []⟩) ?_ ?_
  · exact Le.rfl'
  refine awpL_fix hl6 r (fun p6 => ⟨19, [(0, AV.lst 2 Found.av a0), (1, .func gf1 gc1), (7, AV.int (List.length a0 : Int)), (8, AV.int p6)], [], [], []⟩) (fun rec6 hrec6 p6 h => ?_) 0 h
  unfold F243.l6 at h
  refine awpL_round ?_
  refine awp_sr kpNone [] [] [0, 1, 7, 8, 9] (cs := []) (st' := ⟨19, [(0, AV.lst 2 Found.av a0), (1, .func gf1 gc1), (7, AV.int (List.length a0 : Int)), (8, AV.int p6), (9, AV.bool (decide (p6 < (List.length a0 : Int))))], [], [], []⟩) (by kernel_rfl) trivial ?_
  refine awp_seq fun N9 hN9 => ?_
  refine awp_cond (t := decide (p6 < (List.length a0 : Int))) rfl (fun hb => ?_) (fun hb => ?_)
  · rw [if_pos hb] at h
    refine awp_skip ?_
    refine hN9 _ ?_
    refine awp_seq fun N10 hN10 => ?_
    refine awp_block ?_
    refine awp_sr kpNone [] [] [0, 1, 5, 7, 8] (cs := []) (st' := ⟨19, [(0, AV.lst 2 Found.av a0), (1, .func gf1 gc1), (5, AV.int p6), (7, AV.int (List.length a0 : Int)), (8, AV.int p6)], [], [], []⟩) (by kernel_rfl) trivial ?_
    obtain ⟨x14_3, hx14_3, h⟩ := Option.bind_eq_some_iff.1 h
    obtain ⟨x14_5, hx14_5, h⟩ := Option.bind_eq_some_iff.1 h
    refine awp_sr kpNone [(3, Found.av x14_3), (5, AV.bool x14_5)] [] [0, 1, 5, 7, 8, 16] (cs := [(0 ≤ p6), ((List.map Found.av a0)[Int.toNat p6]? = some (Found.av x14_3)), (Det Tryz.prog gf1 ((Found.av x14_3) :: List.map AV.cl gc1) (.ret (AV.bool x14_5)))]) (st' := ⟨19, [(0, AV.lst 2 Found.av a0), (1, .func gf1 gc1), (5, AV.int p6), (7, AV.int (List.length a0 : Int)), (8, AV.int p6), (16, AV.bool x14_5)], [], [], []⟩) (by kernel_rfl) ⟨getI_le hx14_3, getI_map hx14_3 _, hg1 x14_3 _ hx14_5, trivial⟩ ?_
    refine awp_cond (t := x14_5) rfl (fun hb => ?_) (fun hb => ?_)
    · rw [if_pos hb] at h
      refine awp_sr kpNone [] [] [4] (cs := []) (st' := ⟨19, [(4, AV.int p6)], [], [], []⟩) (by kernel_rfl) trivial ?_
      have h := Option.some.inj h
      subst h
      exact awp_ret ⟨[AV.int p6], by kernel_rfl, Lw.refl _⟩
    · rw [if_false hb] at h
      refine awp_skip ?_
      refine hN10 _ ?_
      refine awp_reg kpNone [] [] [0, 1, 7, 8] (cs := []) (st' := ⟨19, [(0, AV.lst 2 Found.av a0), (1, .func gf1 gc1), (7, AV.int (List.length a0 : Int)), (8, AV.int (w64 (p6 + (1 : Int))))], [], [], []⟩) (by kernel_rfl) trivial ?_
      refine awpL_le ?_ (hrec6 _ h)
      exact Le.rfl'
  · rw [if_false hb] at h
    refine awp_exit ?_
    refine hN3 _ ?_
    refine awp_sr kpNone [] [] [4] (cs := []) (st' := ⟨19, [(4, AV.int (-1))], [], [], []⟩) (by kernel_rfl) trivial ?_
    have h := Option.some.inj h
    subst h
    exact awp_ret ⟨[AV.int (-1)], by kernel_rfl, Lw.refl _⟩
-- {"kind": "opt", "S": "(fun l g => idxF g 0 l)", "thm": "d243"}
theorem d243 (a0 : List Found) (g1 : Found → Option Bool) (gf1 : FuncId) (gc1 : List AV) (hc1 : List.map AV.cl0 gc1 = gc1) (hg1 : ∀ (y0 : Found) (r : Bool), g1 y0 = some r → Det Tryz.prog gf1 ((Found.av y0) :: List.map AV.cl gc1) (.ret (AV.bool r))) (r : Int) (h : idxF g1 0 a0 = some r) :
    Det Tryz.prog 243 [AV.lst 2 Found.av a0, .func gf1 gc1] (.ret (AV.int r)) := by
  refine Det.len 0 rfl fun hl => c243 a0 g1 gf1 gc1 hc1 hg1 _ (rounds_at a0 hl (fun p t => idxF g1 p t) _ ?_ ?_) _ ?_
  · intro rec
    simp [F243.l6, idxF]
  · intro rec p x t h0 h1 hx hr hw
    simp only [F243.l6, hx, hw, hr, h1, decide_true, if_true, Option.bind_some, idxF]
  · simp [F243, h]


-- slices.ContainsFunc[[]strat.Found,strat.Found]
def F141 (a0 : (List Found)) (g1 : Found → Option Bool) : Option Bool :=
  ((fun l g => idxF g 0 l) a0 g1).bind fun x4_2 => some (decide ((0 : Int) ≤ x4_2))
/-- slices.ContainsFunc[[]ballast/strat.Found,ballast/strat.Found] -/
theorem c141 (a0 : (List Found)) (g1 : Found → Option Bool) (gf1 : FuncId) (gc1 : List AV) (hc1 : List.map AV.cl0 gc1 = gc1) (hg1 : ∀ (y0 : Found) (r : Bool), g1 y0 = some r → Det Tryz.prog gf1 ((Found.av y0) :: List.map AV.cl gc1) (.ret (AV.bool r))) (r : Bool) (h : F141 a0 g1 = some r) :
    Det Tryz.prog 141 [AV.lst 2 Found.av a0, .func gf1 gc1] (.ret (AV.bool r)) := by
  refine Det.of_le ?_
  refine @calls_of_body Tryz.prog 141 Tryz.f141 _ Tryz.func141 rfl (by kernel_rfl) [.tmp 4] (by rw [Tryz.results141]) 9 Tryz.ntmps141 _ _ _ (by simp only [List.length_cons, List.length_nil]; decide) ?_
  unfold F141 at h
  refine awp_sr kpNone [] [] [0, 1] (cs := []) (st' := ⟨9, [(0, AV.lst 2 Found.av a0), (1, .func gf1 gc1)], [], [], []⟩) (by kernel_rfl) trivial ?_
  obtain ⟨x4_2, hx4_2, h⟩ := Option.bind_eq_some_iff.1 h
  refine awp_sr kpNone [(2, AV.int x4_2)] [] [4] (cs := [(Det Tryz.prog 243 [AV.lst 2 Found.av a0, .func gf1 (List.map AV.cl0 gc1)] (.ret (AV.int x4_2)))]) (st' := ⟨9, [(4, AV.bool (decide ((0 : Int) ≤ x4_2)))], [], [], []⟩) (by kernel_rfl) ⟨by rw [hc1]; exact (d243 a0 g1 gf1 gc1 hc1 hg1 _ hx4_2), trivial⟩ ?_
  have h := Option.some.inj h
  subst h
  exact awp_ret ⟨[AV.bool (decide ((0 : Int) ≤ x4_2))], by kernel_rfl, Lw.refl _⟩
-- {"kind": "opt", "S": "(fun l g => anyF g l)", "thm": "d141"}
theorem d141 (a0 : List Found) (g1 : Found → Option Bool) (gf1 : FuncId) (gc1 : List AV) (hc1 : List.map AV.cl0 gc1 = gc1) (hg1 : ∀ (y0 : Found) (r : Bool), g1 y0 = some r → Det Tryz.prog gf1 ((Found.av y0) :: List.map AV.cl gc1) (.ret (AV.bool r))) (r : Bool) (h : anyF g1 a0 = some r) :
    Det Tryz.prog 141 [AV.lst 2 Found.av a0, .func gf1 gc1] (.ret (AV.bool r)) := by
  refine c141 a0 g1 gf1 gc1 hc1 hg1 _ ?_
  rw [← idxF_any g1 a0 0 (by omega)] at h
  exact h


-- strat.All
def F48.j26 (rec17 : (List Found × Int) → Option (List Found)) (p17 : List Found × Int) : (List Found) → Option (List Found) := fun p26 =>
  rec17 (p26, w64 (p17.2 + (1 : Int)))
def F48.l17 (x16_4 : (List Str)) (x14_0 : Int) (rec8 : (List Found × Int) → Option (List Found)) (p8 : List Found × Int) (rec17 : (List Found × Int) → Option (List Found)) : (List Found × Int) → Option (List Found) := fun p17 =>
  if decide (p17.2 < (List.length x16_4 : Int)) = true then ((getI x16_4 p17.2).bind fun x23_0 => ((fun l g => anyF g l) p17.1 (fun y0 => F142 y0 x23_0)).bind fun x25_2 => if (!x25_2) = true then (if fits 24 (List.length (p17.1 ++ [(⟨x23_0, x14_0⟩ : Found)])) then (F48.j26 rec17 p17 (p17.1 ++ [(⟨x23_0, x14_0⟩ : Found)])) else none) else (F48.j26 rec17 p17 p17.1)) else (rec8 (p17.1, w64 (p8.2 + (1 : Int))))
def F48.l8 (a1 : Conf) (a0 : State) (l17 : ((List Str)) → (Int) → ((List Found × Int) → Option (List Found)) → (List Found × Int) → (List Found × Int) → Option (List Found)) (rec8 : (List Found × Int) → Option (List Found)) : (List Found × Int) → Option (List Found) := fun p8 =>
  if decide (p8.2 < (List.length a1.On : Int)) = true then ((getI a1.On p8.2).bind fun x14_0 => (A46 a0 x14_0 a1.Marks).bind fun x16_4 => l17 x16_4 x14_0 rec8 p8 (p8.1, 0)) else (some p8.1)
def F48 (l17 : ((List Str)) → (Int) → ((List Found × Int) → Option (List Found)) → (List Found × Int) → (List Found × Int) → Option (List Found)) (l8 : (((List Str)) → (Int) → ((List Found × Int) → Option (List Found)) → (List Found × Int) → (List Found × Int) → Option (List Found)) → (List Found × Int) → Option (List Found)) (a0 : State) (a1 : Conf) : Option (List Found) :=
  l8 l17 (([] : List Found), 0)
/-- ballast/strat.All -/
theorem c48 (a0 : State) (a1 : Conf) (l17 : ((List Str)) → (Int) → ((List Found × Int) → Option (List Found)) → (List Found × Int) → (List Found × Int) → Option (List Found)) (l8 : (((List Str)) → (Int) → ((List Found × Int) → Option (List Found)) → (List Found × Int) → (List Found × Int) → Option (List Found)) → (List Found × Int) → Option (List Found)) (hl17 : ∀ (x16_4 : (List Str)), ∀ (x14_0 : Int), ∀ (rec8 : (List Found × Int) → Option (List Found)), ∀ (p8 : List Found × Int), Rounds (F48.l17 x16_4 x14_0 rec8 p8) (l17 x16_4 x14_0 rec8 p8)) (hl8 : ∀ (l17 : ((List Str)) → (Int) → ((List Found × Int) → Option (List Found)) → (List Found × Int) → (List Found × Int) → Option (List Found)), Rounds (F48.l8 a1 a0 l17) (l8 l17)) (r : (List Found)) (h : F48 l17 l8 a0 a1 = some r) :
    Det Tryz.prog 48 [State.av a0, Conf.av a1] (.ret (AV.lst 2 Found.av r)) := by
  refine Det.of_le ?_
  refine @calls_of_body Tryz.prog 48 Tryz.f48 _ Tryz.func48 rfl (by kernel_rfl) [.tmp 4] (by rw [Tryz.results48]) 40 Tryz.ntmps48 _ _ _ (by simp only [List.length_cons, List.length_nil]; decide) ?_
  unfold F48 at h
  refine awp_sr kpNone [] [] [2, 3] (cs := []) (st' := ⟨40, [(2, .varp 2 0), (3, .varp 3 0)], [(3, (false, a1.cs)), (2, (false, a0.cs))], [], []⟩) (by kernel_rfl) trivial ?_
  refine awp_sr kpNone [] [] [2, 3, 5] (cs := []) (st' := ⟨40, [(2, .varp 2 0), (3, .varp 3 0), (5, .nils)], [(3, (false, a1.cs)), (2, (false, a0.cs))], [], []⟩) (by kernel_rfl) trivial ?_
  refine awp_seq fun N5 hN5 => ?_
  refine awp_sr kpNone [(2, AV.int (List.length a1.On : Int))] [] [2, 3, 5, 11, 12, 13] (cs := [((AV.int (List.length a1.On : Int) = .val (.int .i64 (List.length (List.map AV.int a1.On) : Int))))]) (st' := ⟨40, [(2, .varp 2 0), (3, .varp 3 0), (5, .nils), (11, AV.lst 1 AV.int a1.On), (12, AV.int (List.length a1.On : Int)), (13, AV.int 0)], [(3, (false, a1.cs)), (2, (false, a0.cs))], [], []⟩) (by kernel_rfl) ⟨len_map _ _, trivial⟩ ?_
  refine awp_block ?_
  refine awp_loop ?_
  refine awpL_le (st' := ⟨40, [(2, .varp 2 0), (3, .varp 3 0), (5, .slice (.own 36) 2 (List.map Found.av ([] : List Found))), (11, AV.lst 1 AV.int a1.On), (12, AV.int (List.length a1.On : Int)), (13, AV.int 0)], [(3, (false, a1.cs)), (2, (false, a0.cs))], [], [(36, (92, 2, List.length (List.map Found.av ([] : List Found))))]⟩) ?_ ?_
  · exact Le.mk rfl ⟨⟨rfl, rfl⟩, ⟨rfl, rfl⟩, .inr ⟨rfl, rfl, rfl⟩, .inl rfl, rfl, rfl, trivial⟩ ⟨⟨rfl, ⟨rfl, rfl, .inl rfl, trivial⟩⟩, ⟨rfl, ⟨.inl rfl, .inl rfl, .inl rfl, trivial⟩⟩, trivial⟩ ⟨⟨rfl, by decide⟩, trivial⟩ trivial
  refine awpL_fix (hl8 l17) r (fun p8 => ⟨40, [(2, .varp 2 0), (3, .varp 3 0), (5, .slice (.own 36) 2 (List.map Found.av p8.1)), (11, AV.lst 1 AV.int a1.On), (12, AV.int (List.length a1.On : Int)), (13, AV.int p8.2)], [(3, (false, a1.cs)), (2, (false, a0.cs))], [], [(36, (92, 2, List.length (List.map Found.av p8.1)))]⟩) (fun rec8 hrec8 p8 h => ?_) (([] : List Found), 0) h
  unfold F48.l8 at h
  refine awpL_round ?_
  refine awp_sr kpNone [] [] [2, 3, 5, 11, 12, 13, 14] (cs := []) (st' := ⟨40, [(2, .varp 2 0), (3, .varp 3 0), (5, .slice (.own 36) 2 (List.map Found.av p8.1)), (11, AV.lst 1 AV.int a1.On), (12, AV.int (List.length a1.On : Int)), (13, AV.int p8.2), (14, AV.bool (decide (p8.2 < (List.length a1.On : Int))))], [(3, (false, a1.cs)), (2, (false, a0.cs))], [], [(36, (92, 2, List.length (List.map Found.av p8.1)))]⟩) (by kernel_rfl) trivial ?_
  refine awp_seq fun N11 hN11 => ?_
  refine awp_cond (t := decide (p8.2 < (List.length a1.On : Int))) rfl (fun hb => ?_) (fun hb => ?_)
  · rw [if_pos hb] at h
    refine awp_skip ?_
    refine hN11 _ ?_
    refine awp_seq fun N12 hN12 => ?_
    refine awp_block ?_
    obtain ⟨x14_0, hx14_0, h⟩ := Option.bind_eq_some_iff.1 h
    refine awp_sr kpNone [(0, AV.int x14_0)] [] [2, 3, 5, 7, 11, 12, 13] (cs := [(0 ≤ p8.2), ((List.map AV.int a1.On)[Int.toNat p8.2]? = some (AV.int x14_0))]) (st' := ⟨40, [(2, .varp 2 0), (3, .varp 3 0), (5, .slice (.own 36) 2 (List.map Found.av p8.1)), (7, AV.int x14_0), (11, AV.lst 1 AV.int a1.On), (12, AV.int (List.length a1.On : Int)), (13, AV.int p8.2)], [(3, (false, a1.cs)), (2, (false, a0.cs))], [], [(36, (92, 2, List.length (List.map Found.av p8.1)))]⟩) (by kernel_rfl) ⟨getI_le hx14_0, getI_map hx14_0 _, trivial⟩ ?_
    obtain ⟨x16_4, hx16_4, h⟩ := Option.bind_eq_some_iff.1 h
    refine awp_sr kpNone [(4, AV.lst 1 AV.str x16_4), (5, AV.int (List.length x16_4 : Int))] [] [2, 3, 5, 7, 11, 12, 13, 21, 22, 23] (cs := [(Det Tryz.prog 46 [State.av a0, AV.int x14_0, Marks.av a1.Marks] (.ret (AV.lst 1 AV.str x16_4))), ((AV.int (List.length x16_4 : Int) = .val (.int .i64 (List.length (List.map AV.str x16_4) : Int))))]) (st' := ⟨40, [(2, .varp 2 0), (3, .varp 3 0), (5, .slice (.own 36) 2 (List.map Found.av p8.1)), (7, AV.int x14_0), (11, AV.lst 1 AV.int a1.On), (12, AV.int (List.length a1.On : Int)), (13, AV.int p8.2), (21, AV.lst 1 AV.str x16_4), (22, AV.int (List.length x16_4 : Int)), (23, AV.int 0)], [(3, (false, a1.cs)), (2, (false, a0.cs))], [], [(36, (92, 2, List.length (List.map Found.av p8.1)))]⟩) (by kernel_rfl) ⟨d46 a0 x14_0 a1.Marks _ hx16_4, len_map _ _, trivial⟩ ?_
    refine awp_block ?_
    refine awp_loop ?_
    refine awpL_le (st' := ⟨40, [(2, .varp 2 0), (3, .varp 3 0), (5, .slice (.own 36) 2 (List.map Found.av p8.1)), (7, AV.int x14_0), (11, AV.lst 1 AV.int a1.On), (12, AV.int (List.length a1.On : Int)), (13, AV.int p8.2), (21, AV.lst 1 AV.str x16_4), (22, AV.int (List.length x16_4 : Int)), (23, AV.int 0)], [(3, (false, a1.cs)), (2, (false, a0.cs))], [], [(36, (92, 2, List.length (List.map Found.av p8.1)))]⟩) ?_ ?_
    · exact Le.rfl'
    refine awpL_fix (hl17 x16_4 x14_0 rec8 p8) r (fun p17 => ⟨40, [(2, .varp 2 0), (3, .varp 3 0), (5, .slice (.own 36) 2 (List.map Found.av p17.1)), (7, AV.int x14_0), (11, AV.lst 1 AV.int a1.On), (12, AV.int (List.length a1.On : Int)), (13, AV.int p8.2), (21, AV.lst 1 AV.str x16_4), (22, AV.int (List.length x16_4 : Int)), (23, AV.int p17.2)], [(3, (false, a1.cs)), (2, (false, a0.cs))], [], [(36, (92, 2, List.length (List.map Found.av p17.1)))]⟩) (fun rec17 hrec17 p17 h => ?_) (p8.1, 0) h
    unfold F48.l17 at h
    refine awpL_round ?_
    refine awp_sr kpNone [] [] [2, 3, 5, 7, 11, 12, 13, 21, 22, 23, 24] (cs := []) (st' := ⟨40, [(2, .varp 2 0), (3, .varp 3 0), (5, .slice (.own 36) 2 (List.map Found.av p17.1)), (7, AV.int x14_0), (11, AV.lst 1 AV.int a1.On), (12, AV.int (List.length a1.On : Int)), (13, AV.int p8.2), (21, AV.lst 1 AV.str x16_4), (22, AV.int (List.length x16_4 : Int)), (23, AV.int p17.2), (24, AV.bool (decide (p17.2 < (List.length x16_4 : Int))))], [(3, (false, a1.cs)), (2, (false, a0.cs))], [], [(36, (92, 2, List.length (List.map Found.av p17.1)))]⟩) (by kernel_rfl) trivial ?_
    refine awp_seq fun N20 hN20 => ?_
    refine awp_cond (t := decide (p17.2 < (List.length x16_4 : Int))) rfl (fun hb => ?_) (fun hb => ?_)
    · rw [if_pos hb] at h
      refine awp_skip ?_
      refine hN20 _ ?_
      refine awp_seq fun N21 hN21 => ?_
      refine awp_block ?_
      obtain ⟨x23_0, hx23_0, h⟩ := Option.bind_eq_some_iff.1 h
      refine awp_sr kpNone [(0, AV.str x23_0)] [] [2, 3, 5, 7, 9, 11, 12, 13, 21, 22, 23] (cs := [(0 ≤ p17.2), ((List.map AV.str x16_4)[Int.toNat p17.2]? = some (AV.str x23_0))]) (st' := ⟨40, [(2, .varp 2 0), (3, .varp 3 0), (5, .slice (.own 36) 2 (List.map Found.av p17.1)), (7, AV.int x14_0), (9, .varp 9 0), (11, AV.lst 1 AV.int a1.On), (12, AV.int (List.length a1.On : Int)), (13, AV.int p8.2), (21, AV.lst 1 AV.str x16_4), (22, AV.int (List.length x16_4 : Int)), (23, AV.int p17.2)], [(9, (false, [AV.str x23_0])), (3, (false, a1.cs)), (2, (false, a0.cs))], [], [(36, (92, 2, List.length (List.map Found.av p17.1)))]⟩) (by kernel_rfl) ⟨getI_le hx23_0, getI_map hx23_0 _, trivial⟩ ?_
      obtain ⟨x25_2, hx25_2, h⟩ := Option.bind_eq_some_iff.1 h
      refine awp_sr kpNone [(2, AV.bool x25_2)] [] [2, 3, 5, 7, 9, 11, 12, 13, 21, 22, 23, 30] (cs := [(Det Tryz.prog 141 [AV.lst 2 Found.av p17.1, .func 142 [.inp [AV.str x23_0]]] (.ret (AV.bool x25_2)))]) (st' := ⟨40, [(2, .varp 2 0), (3, .varp 3 0), (5, .slice (.own 36) 2 (List.map Found.av p17.1)), (7, AV.int x14_0), (9, .varp 9 0), (11, AV.lst 1 AV.int a1.On), (12, AV.int (List.length a1.On : Int)), (13, AV.int p8.2), (21, AV.lst 1 AV.str x16_4), (22, AV.int (List.length x16_4 : Int)), (23, AV.int p17.2), (30, AV.bool (!x25_2))], [(9, (true, [AV.str x23_0])), (3, (false, a1.cs)), (2, (false, a0.cs))], [], [(36, (92, 2, List.length (List.map Found.av p17.1)))]⟩) (by kernel_rfl) ⟨d141 p17.1 (fun y0 => F142 y0 x23_0) 142 [.inp [AV.str x23_0]] rfl (fun y0 _ hy => c142 y0 x23_0 _ hy) _ hx25_2, trivial⟩ ?_
      refine awp_to (σ := List Found) (fun p26 => ⟨40, [(2, .varp 2 0), (3, .varp 3 0), (5, .slice (.own 36) 2 (List.map Found.av p26)), (7, AV.int x14_0), (11, AV.lst 1 AV.int a1.On), (12, AV.int (List.length a1.On : Int)), (13, AV.int p8.2), (21, AV.lst 1 AV.str x16_4), (22, AV.int (List.length x16_4 : Int)), (23, AV.int p17.2)], [(9, (true, [AV.str x23_0])), (3, (false, a1.cs)), (2, (false, a0.cs))], [], [(36, (92, 2, List.length (List.map Found.av p26)))]⟩) (fun p26 => F48.j26 rec17 p17 p26 = some r) (fun p26 h => ?_) (fun N26 hJ26 => ?_)
      · unfold F48.j26 at h
        refine hN21 _ ?_
        refine awp_reg kpNone [] [] [2, 3, 5, 7, 11, 12, 13, 21, 22, 23] (cs := []) (st' := ⟨40, [(2, .varp 2 0), (3, .varp 3 0), (5, .slice (.own 36) 2 (List.map Found.av p26)), (7, AV.int x14_0), (11, AV.lst 1 AV.int a1.On), (12, AV.int (List.length a1.On : Int)), (13, AV.int p8.2), (21, AV.lst 1 AV.str x16_4), (22, AV.int (List.length x16_4 : Int)), (23, AV.int (w64 (p17.2 + (1 : Int))))], [(9, (true, [AV.str x23_0])), (3, (false, a1.cs)), (2, (false, a0.cs))], [], [(36, (92, 2, List.length (List.map Found.av p26)))]⟩) (by kernel_rfl) trivial ?_
        refine awpL_le ?_ (hrec17 _ h)
        exact Le.mk rfl ⟨⟨rfl, rfl⟩, ⟨rfl, rfl⟩, .inl ⟨rfl, rfl⟩, rfl, .inl rfl, rfl, rfl, .inl rfl, rfl, rfl, trivial⟩ ⟨⟨rfl, ⟨rfl, rfl, .inl rfl, trivial⟩⟩, ⟨rfl, ⟨.inl rfl, .inl rfl, .inl rfl, trivial⟩⟩, trivial⟩ ⟨rfl, trivial⟩ trivial
      · refine awp_cond (t := (!x25_2)) rfl (fun hb => ?_) (fun hb => ?_)
        · rw [if_pos hb] at h
          obtain ⟨hp28_5, h⟩ := guardP h
          refine awp_reg kpNone [(5, AV.lst 2 Found.av (p17.1 ++ [(⟨x23_0, x14_0⟩ : Found)]))] [] [2, 3, 5, 7, 11, 12, 13, 21, 22, 23] (cs := [(List.length (List.map Found.av p17.1) = List.length (List.map Found.av p17.1)), (List.length (List.map Found.av (p17.1 ++ [(⟨x23_0, x14_0⟩ : Found)])) * 24 ≤ 140737488355328), (List.length (List.map Found.av (p17.1 ++ [(⟨x23_0, x14_0⟩ : Found)])) ≤ 140737488355328), (List.map Found.av p17.1 ++ List.map Found.av [(⟨x23_0, x14_0⟩ : Found)] = List.map Found.av (p17.1 ++ [(⟨x23_0, x14_0⟩ : Found)]))]) (st' := ⟨40, [(2, .varp 2 0), (3, .varp 3 0), (5, .slice (.own 36) 2 (List.map Found.av (p17.1 ++ [(⟨x23_0, x14_0⟩ : Found)]))), (7, AV.int x14_0), (11, AV.lst 1 AV.int a1.On), (12, AV.int (List.length a1.On : Int)), (13, AV.int p8.2), (21, AV.lst 1 AV.str x16_4), (22, AV.int (List.length x16_4 : Int)), (23, AV.int p17.2)], [(9, (true, [AV.str x23_0])), (3, (false, a1.cs)), (2, (false, a0.cs))], [], [(36, (92, 2, List.length (List.map Found.av (p17.1 ++ [(⟨x23_0, x14_0⟩ : Found)])))), (35, (92, 2, 1))]⟩) (by kernel_rfl) ⟨by simp only [List.length_map, List.length_cons, List.length_nil], len_mul _ _ _ _ hp28_5.1, len_ge _ _ hp28_5.2, lst_app _ _ _, trivial⟩ ?_
          exact hJ26 (p17.1 ++ [(⟨x23_0, x14_0⟩ : Found)]) _ h (Le.mk rfl ⟨⟨rfl, rfl⟩, ⟨rfl, rfl⟩, .inl ⟨rfl, rfl⟩, rfl, .inl rfl, rfl, rfl, .inl rfl, rfl, rfl, trivial⟩ ⟨⟨rfl, rfl⟩, ⟨rfl, ⟨rfl, rfl, .inl rfl, trivial⟩⟩, ⟨rfl, ⟨.inl rfl, .inl rfl, .inl rfl, trivial⟩⟩, trivial⟩ ⟨rfl, trivial⟩ trivial)
        · rw [if_false hb] at h
          refine awp_skip ?_
          exact hJ26 p17.1 _ h (Le.mk rfl ⟨⟨rfl, rfl⟩, ⟨rfl, rfl⟩, .inl ⟨rfl, rfl⟩, rfl, .inl rfl, rfl, rfl, .inl rfl, rfl, rfl, trivial⟩ ⟨⟨rfl, rfl⟩, ⟨rfl, ⟨rfl, rfl, .inl rfl, trivial⟩⟩, ⟨rfl, ⟨.inl rfl, .inl rfl, .inl rfl, trivial⟩⟩, trivial⟩ ⟨rfl, trivial⟩ trivial)
    · rw [if_false hb] at h
      refine awp_exit ?_
      refine hN12 _ ?_
      refine awp_reg kpNone [] [] [2, 3, 5, 11, 12, 13] (cs := []) (st' := ⟨40, [(2, .varp 2 0), (3, .varp 3 0), (5, .slice (.own 36) 2 (List.map Found.av p17.1)), (11, AV.lst 1 AV.int a1.On), (12, AV.int (List.length a1.On : Int)), (13, AV.int (w64 (p8.2 + (1 : Int))))], [(3, (false, a1.cs)), (2, (false, a0.cs))], [], [(36, (92, 2, List.length (List.map Found.av p17.1)))]⟩) (by kernel_rfl) trivial ?_
      refine awpL_le ?_ (hrec8 _ h)
      exact Le.rfl'
  · rw [if_false hb] at h
    refine awp_exit ?_
    refine hN5 _ ?_
    refine awp_sr kpNone [] [] [4] (cs := []) (st' := ⟨40, [(4, .slice (.own 36) 2 (List.map Found.av p8.1))], [(3, (false, a1.cs)), (2, (false, a0.cs))], [], [(36, (92, 2, List.length (List.map Found.av p8.1)))]⟩) (by kernel_rfl) trivial ?_
    have h := Option.some.inj h
    subst h
    exact awp_ret ⟨[.slice (.own 36) 2 (List.map Found.av p8.1)], by kernel_rfl, Lw.refl _⟩
def A48.l17 (a0 : State) (a1 : Conf) (x16_4 : (List Str)) (x14_0 : Int) (rec8 : (List Found × Int) → Option (List Found)) (p8 : List Found × Int) : (List Found × Int) → Option (List Found) := iterL (F48.l17 x16_4 x14_0 rec8 p8) 4096
def A48.l8 (a0 : State) (a1 : Conf) (l17 : ((List Str)) → (Int) → ((List Found × Int) → Option (List Found)) → (List Found × Int) → (List Found × Int) → Option (List Found)) : (List Found × Int) → Option (List Found) := iterL (F48.l8 a1 a0 l17) 4096
def A48 (a0 : State) (a1 : Conf) : Option (List Found) := F48 (A48.l17 a0 a1) (A48.l8 a0 a1) a0 a1
theorem d48 (a0 : State) (a1 : Conf) (r : (List Found)) (h : A48 a0 a1 = some r) :
    Det Tryz.prog 48 [State.av a0, Conf.av a1] (.ret (AV.lst 2 Found.av r)) := by
  exact c48 a0 a1 (A48.l17 a0 a1) (A48.l8 a0 a1) (fun _ _ _ _ => rounds_iter _ _) (fun _ => rounds_iter _ _) r h


-- ballastlaw8.Names
def F36.l11 (a0 : (List Str)) (a1 : (List Str)) (rec11 : (Int) → Option Bool) : (Int) → Option Bool := fun p11 =>
  if decide (p11 < (List.length a0 : Int)) = true then ((getI a0 p11).bind fun x17_2 => (getI a1 p11).bind fun x17_6 => if decide (¬ x17_2 = x17_6) = true then (some false) else (rec11 (w64 (p11 + (1 : Int))))) else (some true)
def F36 (l11 : (Int) → Option Bool) (a0 : (List Str)) (a1 : (List Str)) : Option Bool :=
  if decide (¬ (List.length a0 : Int) = (List.length a1 : Int)) = true then (some false) else (l11 0)
/-- ballast/ballastlaw8.Names -/
theorem c36 (a0 : (List Str)) (a1 : (List Str)) (l11 : (Int) → Option Bool) (hl11 : Rounds (F36.l11 a0 a1) (l11)) (r : Bool) (h : F36 l11 a0 a1 = some r) :
    Det Tryz.prog 36 [AV.lst 1 AV.str a0, AV.lst 1 AV.str a1] (.ret (AV.bool r)) := by
  refine Det.of_le ?_
  refine @calls_of_body Tryz.prog 36 Tryz.f36 _ Tryz.func36 rfl (by kernel_rfl) [.tmp 4] (by rw [Tryz.results36]) 26 Tryz.ntmps36 _ _ _ (by simp only [List.length_cons, List.length_nil]; decide) ?_
  unfold F36 at h
  refine awp_sr kpNone [] [] [0, 1] (cs := []) (st' := ⟨26, [(0, AV.lst 1 AV.str a0), (1, AV.lst 1 AV.str a1)], [], [], []⟩) (by kernel_rfl) trivial ?_
  refine awp_seq fun N3 hN3 => ?_
  refine awp_sr kpNone [(1, AV.int (List.length a0 : Int)), (3, AV.int (List.length a1 : Int))] [] [0, 1, 10] (cs := [((AV.int (List.length a0 : Int) = .val (.int .i64 (List.length (List.map AV.str a0) : Int)))), ((AV.int (List.length a1 : Int) = .val (.int .i64 (List.length (List.map AV.str a1) : Int))))]) (st' := ⟨26, [(0, AV.lst 1 AV.str a0), (1, AV.lst 1 AV.str a1), (10, AV.bool (decide (¬ (List.length a0 : Int) = (List.length a1 : Int))))], [], [], []⟩) (by kernel_rfl) ⟨len_map _ _, len_map _ _, trivial⟩ ?_
  refine awp_cond (t := decide (¬ (List.length a0 : Int) = (List.length a1 : Int))) rfl (fun hb => ?_) (fun hb => ?_)
  · rw [if_pos hb] at h
    refine awp_sr kpNone [] [] [4] (cs := []) (st' := ⟨26, [(4, AV.bool false)], [], [], []⟩) (by kernel_rfl) trivial ?_
    have h := Option.some.inj h
    subst h
    exact awp_ret ⟨[AV.bool false], by kernel_rfl, Lw.refl _⟩
  · rw [if_false hb] at h
    refine awp_skip ?_
    refine hN3 _ ?_
    refine awp_seq fun N8 hN8 => ?_
    refine awp_sr kpNone [] [] [0, 1, 5] (cs := []) (st' := ⟨26, [(0, AV.lst 1 AV.str a0), (1, AV.lst 1 AV.str a1), (5, AV.int 0)], [], [], []⟩) (by kernel_rfl) trivial ?_
    refine awp_block ?_
    refine awp_loop ?_
    refine awpL_le (st' := ⟨26, [(0, AV.lst 1 AV.str a0), (1, AV.lst 1 AV.str a1), (5, AV.int 0)], [], [], []⟩) ?_ ?_
    · exact Le.rfl'
    refine awpL_fix hl11 r (fun p11 => ⟨26, [(0, AV.lst 1 AV.str a0), (1, AV.lst 1 AV.str a1), (5, AV.int p11)], [], [], []⟩) (fun rec11 hrec11 p11 h => ?_) 0 h
    unfold F36.l11 at h
    refine awpL_round ?_
    refine awp_seq fun N12 hN12 => ?_
    refine awp_sr kpNone [(2, AV.int (List.length a0 : Int))] [] [0, 1, 5, 14] (cs := [((AV.int (List.length a0 : Int) = .val (.int .i64 (List.length (List.map AV.str a0) : Int))))]) (st' := ⟨26, [(0, AV.lst 1 AV.str a0), (1, AV.lst 1 AV.str a1), (5, AV.int p11), (14, AV.bool (decide (p11 < (List.length a0 : Int))))], [], [], []⟩) (by kernel_rfl) ⟨len_map _ _, trivial⟩ ?_
    refine awp_cond (t := decide (p11 < (List.length a0 : Int))) rfl (fun hb => ?_) (fun hb => ?_)
    · rw [if_pos hb] at h
      refine awp_skip ?_
      refine hN12 _ ?_
      refine awp_seq fun N15 hN15 => ?_
      refine awp_block ?_
      refine awp_seq fun N16 hN16 => ?_
      obtain ⟨x17_2, hx17_2, h⟩ := Option.bind_eq_some_iff.1 h
      obtain ⟨x17_6, hx17_6, h⟩ := Option.bind_eq_some_iff.1 h
      refine awp_regD mixedTryz kpNone [(2, AV.str x17_2), (6, AV.str x17_6)] [] [0, 1, 5, 25] (by kernel_rfl) (cs := [(0 ≤ p11), ((List.map AV.str a0)[Int.toNat p11]? = some (AV.str x17_2)), (0 ≤ p11), ((List.map AV.str a1)[Int.toNat p11]? = some (AV.str x17_6))]) (st' := ⟨26, [(0, AV.lst 1 AV.str a0), (1, AV.lst 1 AV.str a1), (5, AV.int p11), (25, AV.bool (decide (¬ x17_2 = x17_6)))], [], [], []⟩) (by kernel_rfl) ⟨getI_le hx17_2, getI_map hx17_2 _, getI_le hx17_6, getI_map hx17_6 _, trivial⟩ ?_
      refine hN16 _ ?_
      refine awp_cond (t := decide (¬ x17_2 = x17_6)) rfl (fun hb => ?_) (fun hb => ?_)
      · rw [if_pos hb] at h
        refine awp_sr kpNone [] [] [4] (cs := []) (st' := ⟨26, [(4, AV.bool false)], [], [], []⟩) (by kernel_rfl) trivial ?_
        have h := Option.some.inj h
        subst h
        exact awp_ret ⟨[AV.bool false], by kernel_rfl, Lw.refl _⟩
      · rw [if_false hb] at h
        refine awp_skip ?_
        refine hN15 _ ?_
        refine awp_reg kpNone [] [] [0, 1, 5] (cs := []) (st' := ⟨26, [(0, AV.lst 1 AV.str a0), (1, AV.lst 1 AV.str a1), (5, AV.int (w64 (p11 + (1 : Int))))], [], [], []⟩) (by kernel_rfl) trivial ?_
        refine awpL_le ?_ (hrec11 _ h)
        exact Le.rfl'
    · rw [if_false hb] at h
      refine awp_exit ?_
      refine hN8 _ ?_
      refine awp_sr kpNone [] [] [4] (cs := []) (st' := ⟨26, [(4, AV.bool true)], [], [], []⟩) (by kernel_rfl) trivial ?_
      have h := Option.some.inj h
      subst h
      exact awp_ret ⟨[AV.bool true], by kernel_rfl, Lw.refl _⟩
def A36.l11 (a0 : (List Str)) (a1 : (List Str)) : (Int) → Option Bool := iterL (F36.l11 a0 a1) 4096
def A36 (a0 : (List Str)) (a1 : (List Str)) : Option Bool := F36 (A36.l11 a0 a1) a0 a1
theorem d36 (a0 : (List Str)) (a1 : (List Str)) (r : Bool) (h : A36 a0 a1 = some r) :
    Det Tryz.prog 36 [AV.lst 1 AV.str a0, AV.lst 1 AV.str a1] (.ret (AV.bool r)) := by
  exact c36 a0 a1 (A36.l11 a0 a1) (rounds_iter _ _) r h


-- slices.Index[[]int,int]
def F228.l6 (a0 : (List Int)) (a1 : Int) (rec6 : (Int) → Option Int) : (Int) → Option Int := fun p6 =>
  if decide (p6 < (List.length a0 : Int)) = true then ((getI a0 p6).bind fun x14_3 => if decide (a1 = x14_3) = true then (some p6) else (rec6 (w64 (p6 + (1 : Int))))) else (some (-1))
def F228 (l6 : (Int) → Option Int) (a0 : (List Int)) (a1 : Int) : Option Int :=
  l6 0
/-- slices.Index[[]int,int] -/
theorem c228 (a0 : (List Int)) (a1 : Int) (l6 : (Int) → Option Int) (hl6 : Rounds (F228.l6 a0 a1) (l6)) (r : Int) (h : F228 l6 a0 a1 = some r) :
    Det Tryz.prog 228 [AV.lst 1 AV.int a0, AV.int a1] (.ret (AV.int r)) := by
  refine Det.of_le ?_
  refine @calls_of_body Tryz.prog 228 Tryz.f228 _ Tryz.func228 rfl (by kernel_rfl) [.tmp 4] (by rw [Tryz.results228]) 19 Tryz.ntmps228 _ _ _ (by simp only [List.length_cons, List.length_nil]; decide) ?_
  unfold F228 at h
  refine awp_sr kpNone [] [] [0, 1] (cs := []) (st' := ⟨19, [(0, AV.lst 1 AV.int a0), (1, AV.int a1)], [], [], []⟩) (by kernel_rfl) trivial ?_
  refine awp_seq fun N3 hN3 => ?_
  refine awp_sr kpNone [(1, AV.int (List.length a0 : Int))] [] [0, 1, 7, 8] (cs := [((AV.int (List.length a0 : Int) = .val (.int .i64 (List.length (List.map AV.int a0) : Int))))]) (st' := ⟨19, [(0, AV.lst 1 AV.int a0), (1, AV.int a1), (7, AV.int (List.length a0 : Int)), (8, AV.int 0)], [], [], []⟩) (by kernel_rfl) ⟨len_map _ _, trivial⟩ ?_
  refine awp_block ?_
  refine awp_loop ?_
  refine awpL_le (st' := ⟨19, [(0, AV.lst 1 AV.int a0), (1, AV.int a1), (7, AV.int (List.length a0 : Int)), (8, AV.int 0)], [], [], []⟩) ?_ ?_
  · exact Le.rfl'
  refine awpL_fix hl6 r (fun p6 => ⟨19, [(0, AV.lst 1 AV.int a0), (1, AV.int a1), (7, AV.int (List.length a0 : Int)), (8, AV.int p6)], [], [], []⟩) (fun rec6 hrec6 p6 h => ?_) 0 h
  unfold F228.l6 at h
  refine awpL_round ?_
  refine awp_sr kpNone [] [] [0, 1, 7, 8, 9] (cs := []) (st' := ⟨19, [(0, AV.lst 1 AV.int a0), (1, AV.int a1), (7, AV.int (List.length a0 : Int)), (8, AV.int p6), (9, AV.bool (decide (p6 < (List.length a0 : Int))))], [], [], []⟩) (by kernel_rfl) trivial ?_
  refine awp_seq fun N9 hN9 => ?_
  refine awp_cond (t := decide (p6 < (List.length a0 : Int))) rfl (fun hb => ?_) (fun hb => ?_)
  · rw [if_pos hb] at h
    refine awp_skip ?_
    refine hN9 _ ?_
    refine awp_seq fun N10 hN10 => ?_
    refine awp_block ?_
    refine awp_sr kpNone [] [] [0, 1, 5, 7, 8] (cs := []) (st' := ⟨19, [(0, AV.lst 1 AV.int a0), (1, AV.int a1), (5, AV.int p6), (7, AV.int (List.length a0 : Int)), (8, AV.int p6)], [], [], []⟩) (by kernel_rfl) trivial ?_
    obtain ⟨x14_3, hx14_3, h⟩ := Option.bind_eq_some_iff.1 h
    refine awp_sr kpNone [(3, AV.int x14_3)] [] [0, 1, 5, 7, 8, 16] (cs := [(0 ≤ p6), ((List.map AV.int a0)[Int.toNat p6]? = some (AV.int x14_3))]) (st' := ⟨19, [(0, AV.lst 1 AV.int a0), (1, AV.int a1), (5, AV.int p6), (7, AV.int (List.length a0 : Int)), (8, AV.int p6), (16, AV.bool (decide (a1 = x14_3)))], [], [], []⟩) (by kernel_rfl) ⟨getI_le hx14_3, getI_map hx14_3 _, trivial⟩ ?_
    refine awp_cond (t := decide (a1 = x14_3)) rfl (fun hb => ?_) (fun hb => ?_)
    · rw [if_pos hb] at h
      refine awp_sr kpNone [] [] [4] (cs := []) (st' := ⟨19, [(4, AV.int p6)], [], [], []⟩) (by kernel_rfl) trivial ?_
      have h := Option.some.inj h
      subst h
      exact awp_ret ⟨[AV.int p6], by kernel_rfl, Lw.refl _⟩
    · rw [if_false hb] at h
      refine awp_skip ?_
      refine hN10 _ ?_
      refine awp_reg kpNone [] [] [0, 1, 7, 8] (cs := []) (st' := ⟨19, [(0, AV.lst 1 AV.int a0), (1, AV.int a1), (7, AV.int (List.length a0 : Int)), (8, AV.int (w64 (p6 + (1 : Int))))], [], [], []⟩) (by kernel_rfl) trivial ?_
      refine awpL_le ?_ (hrec6 _ h)
      exact Le.rfl'
  · rw [if_false hb] at h
    refine awp_exit ?_
    refine hN3 _ ?_
    refine awp_sr kpNone [] [] [4] (cs := []) (st' := ⟨19, [(4, AV.int (-1))], [], [], []⟩) (by kernel_rfl) trivial ?_
    have h := Option.some.inj h
    subst h
    exact awp_ret ⟨[AV.int (-1)], by kernel_rfl, Lw.refl _⟩
def A228.l6 (a0 : (List Int)) (a1 : Int) : (Int) → Option Int := iterL (F228.l6 a0 a1) 4096
def A228 (a0 : (List Int)) (a1 : Int) : Option Int := F228 (A228.l6 a0 a1) a0 a1
theorem d228 (a0 : (List Int)) (a1 : Int) (r : Int) (h : A228 a0 a1 = some r) :
    Det Tryz.prog 228 [AV.lst 1 AV.int a0, AV.int a1] (.ret (AV.int r)) := by
  exact c228 a0 a1 (A228.l6 a0 a1) (rounds_iter _ _) r h


-- slices.Contains[[]int,int]
def F134 (a0 : (List Int)) (a1 : Int) : Option Bool :=
  (A228 a0 a1).bind fun x4_2 => some (decide ((0 : Int) ≤ x4_2))
/-- slices.Contains[[]int,int] -/
theorem c134 (a0 : (List Int)) (a1 : Int) (r : Bool) (h : F134 a0 a1 = some r) :
    Det Tryz.prog 134 [AV.lst 1 AV.int a0, AV.int a1] (.ret (AV.bool r)) := by
  refine Det.of_le ?_
  refine @calls_of_body Tryz.prog 134 Tryz.f134 _ Tryz.func134 rfl (by kernel_rfl) [.tmp 4] (by rw [Tryz.results134]) 9 Tryz.ntmps134 _ _ _ (by simp only [List.length_cons, List.length_nil]; decide) ?_
  unfold F134 at h
  refine awp_sr kpNone [] [] [0, 1] (cs := []) (st' := ⟨9, [(0, AV.lst 1 AV.int a0), (1, AV.int a1)], [], [], []⟩) (by kernel_rfl) trivial ?_
  obtain ⟨x4_2, hx4_2, h⟩ := Option.bind_eq_some_iff.1 h
  refine awp_sr kpNone [(2, AV.int x4_2)] [] [4] (cs := [(Det Tryz.prog 228 [AV.lst 1 AV.int a0, AV.int a1] (.ret (AV.int x4_2)))]) (st' := ⟨9, [(4, AV.bool (decide ((0 : Int) ≤ x4_2)))], [], [], []⟩) (by kernel_rfl) ⟨d228 a0 a1 _ hx4_2, trivial⟩ ?_
  have h := Option.some.inj h
  subst h
  exact awp_ret ⟨[AV.bool (decide ((0 : Int) ≤ x4_2))], by kernel_rfl, Lw.refl _⟩


-- strat.Check$1
def F132.j18 (rec7 : (Int) → Option (Res Unit)) (p7 : Int) : (Unit) → Option (Res Unit) := fun p18 =>
  rec7 (w64 (p7 + (1 : Int)))
def F132.j23 (rec7 : (Int) → Option (Res Unit)) (p7 : Int) : (Unit) → Option (Res Unit) := fun p23 =>
  F132.j18 rec7 p7 ()
def F132.l7 (a0 : Conf) (rec7 : (Int) → Option (Res Unit)) : (Int) → Option (Res Unit) := fun p7 =>
  if decide (p7 < (List.length a0.On : Int)) = true then ((getI a0.On p7).bind fun x13_1 => if ((decide (x13_1 < (1 : Int))) || (decide ((5 : Int) < x13_1))) = true then (thn (F133 1) fun x20_0 => F132.j18 rec7 p7 ()) else (if 0 ≤ p7 ∧ 0 ≤ Int.toNat p7 ∧ Int.toNat p7 ≤ List.length a0.On then ((F134 (List.drop 0 (List.take (Int.toNat p7) a0.On)) x13_1).bind fun x22_5 => if x22_5 = true then (thn (F133 6) fun x24_0 => F132.j23 rec7 p7 ()) else (F132.j23 rec7 p7 ())) else none)) else (some (.ret ()))
def F132.j4 (l7 : (Int) → Option (Res Unit)) : (Unit) → Option (Res Unit) := fun p4 =>
  l7 0
def F132 (l7 : (Int) → Option (Res Unit)) (a0 : Conf) : Option (Res Unit) :=
  if decide ((8 : Int) < (List.length a0.On : Int)) = true then (thn (F133 4) fun x25_0 => F132.j4 l7 ()) else (F132.j4 l7 ())
/-- ballast/strat.Check$1 -/
theorem c132 (a0 : Conf) (l7 : (Int) → Option (Res Unit)) (hl7 : Rounds (F132.l7 a0) (l7)) (r : (Res Unit)) (h : F132 l7 a0 = some r) :
    Det Tryz.prog 132 [.inp a0.cs] (Res.out 279 (fun r => .tuple []) r) := by
  refine Det.of_le ?_
  refine @calls_of_body Tryz.prog 132 Tryz.f132 _ Tryz.func132 rfl (by kernel_rfl) [] (by rw [Tryz.results132]) 33 Tryz.ntmps132 _ _ _ (by simp only [List.length_cons, List.length_nil]; decide) ?_
  unfold F132 at h
  refine awp_seq fun N1 hN1 => ?_
  refine awp_sr kpNone [(2, AV.int (List.length a0.On : Int))] [] [0, 6] (cs := [((AV.int (List.length a0.On : Int) = .val (.int .i64 (List.length (List.map AV.int a0.On) : Int))))]) (st' := ⟨33, [(0, .inp a0.cs), (6, AV.bool (decide ((8 : Int) < (List.length a0.On : Int))))], [], [], []⟩) (by kernel_rfl) ⟨len_map _ _, trivial⟩ ?_
  refine awp_to (σ := Unit) (fun p4 => ⟨33, [(0, .inp a0.cs)], [], [], []⟩) (fun p4 => F132.j4 l7 p4 = some r) (fun p4 h => ?_) (fun N4 hJ4 => ?_)
  · unfold F132.j4 at h
    refine hN1 _ ?_
    refine awp_sr kpNone [(2, AV.int (List.length a0.On : Int))] [] [0, 9, 10, 11] (cs := [((AV.int (List.length a0.On : Int) = .val (.int .i64 (List.length (List.map AV.int a0.On) : Int))))]) (st' := ⟨33, [(0, .inp a0.cs), (9, AV.lst 1 AV.int a0.On), (10, AV.int (List.length a0.On : Int)), (11, AV.int 0)], [], [], []⟩) (by kernel_rfl) ⟨len_map _ _, trivial⟩ ?_
    refine awp_block ?_
    refine awp_loop ?_
    refine awpL_le (st' := ⟨33, [(0, .inp a0.cs), (9, AV.lst 1 AV.int a0.On), (10, AV.int (List.length a0.On : Int)), (11, AV.int 0)], [], [], []⟩) ?_ ?_
    · exact Le.rfl'
    refine awpL_fix hl7 r (fun p7 => ⟨33, [(0, .inp a0.cs), (9, AV.lst 1 AV.int a0.On), (10, AV.int (List.length a0.On : Int)), (11, AV.int p7)], [], [], []⟩) (fun rec7 hrec7 p7 h => ?_) 0 h
    unfold F132.l7 at h
    refine awpL_round ?_
    refine awp_sr kpNone [] [] [0, 9, 10, 11, 12] (cs := []) (st' := ⟨33, [(0, .inp a0.cs), (9, AV.lst 1 AV.int a0.On), (10, AV.int (List.length a0.On : Int)), (11, AV.int p7), (12, AV.bool (decide (p7 < (List.length a0.On : Int))))], [], [], []⟩) (by kernel_rfl) trivial ?_
    refine awp_seq fun N10 hN10 => ?_
    refine awp_cond (t := decide (p7 < (List.length a0.On : Int))) rfl (fun hb => ?_) (fun hb => ?_)
    · rw [if_pos hb] at h
      refine awp_skip ?_
      refine hN10 _ ?_
      refine awp_seq fun N11 hN11 => ?_
      refine awp_block ?_
      obtain ⟨x13_1, hx13_1, h⟩ := Option.bind_eq_some_iff.1 h
      refine awp_sr kpNone [(1, AV.int x13_1)] [] [0, 1, 2, 9, 10, 11] (cs := [(0 ≤ p7), ((List.map AV.int a0.On)[Int.toNat p7]? = some (AV.int x13_1))]) (st' := ⟨33, [(0, .inp a0.cs), (1, AV.int p7), (2, AV.int x13_1), (9, AV.lst 1 AV.int a0.On), (10, AV.int (List.length a0.On : Int)), (11, AV.int p7)], [], [], []⟩) (by kernel_rfl) ⟨getI_le hx13_1, getI_map hx13_1 _, trivial⟩ ?_
      refine awp_block ?_
      refine awp_seq fun N14 hN14 => ?_
      refine awp_to (σ := Bool) (fun p => ⟨33, [(0, .inp a0.cs), (1, AV.int p7), (2, AV.int x13_1), (9, AV.lst 1 AV.int a0.On), (10, AV.int (List.length a0.On : Int)), (11, AV.int p7), (16, AV.bool p)], [], [], []⟩) (fun p => p = ((decide (x13_1 < (1 : Int))) || (decide ((5 : Int) < x13_1)))) (fun p hp => ?_) (fun N17 hJ17 => ?_)
      · subst hp
        refine hN14 _ ?_
        refine awp_to (σ := Unit) (fun p18 => ⟨33, [(0, .inp a0.cs), (9, AV.lst 1 AV.int a0.On), (10, AV.int (List.length a0.On : Int)), (11, AV.int p7)], [], [], []⟩) (fun p18 => F132.j18 rec7 p7 p18 = some r) (fun p18 h => ?_) (fun N18 hJ18 => ?_)
        · unfold F132.j18 at h
          refine hN11 _ ?_
          refine awp_reg kpNone [] [] [0, 9, 10, 11] (cs := []) (st' := ⟨33, [(0, .inp a0.cs), (9, AV.lst 1 AV.int a0.On), (10, AV.int (List.length a0.On : Int)), (11, AV.int (w64 (p7 + (1 : Int))))], [], [], []⟩) (by kernel_rfl) trivial ?_
          refine awpL_le ?_ (hrec7 _ h)
          exact Le.rfl'
        · refine awp_cond (t := ((decide (x13_1 < (1 : Int))) || (decide ((5 : Int) < x13_1)))) rfl (fun hb => ?_) (fun hb => ?_)
          · rw [if_pos hb] at h
            rcases thn_some h with ⟨e, hx20_0, hr⟩ | ⟨x20_0, hx20_0, h⟩
            · subst hr
              refine awp_panT kpNone [] [] 0 (v := AV.iface 279 (.agg [AV.int e])) (cs := [(Det Tryz.prog 133 [AV.int 1] (.panic (AV.iface 279 (.agg [AV.int e]))))]) (st' := ⟨33, [], [], [], []⟩) (by kernel_rfl) ⟨c133 1 (.stop e) hx20_0, trivial⟩ ?_
              exact Lw.refl _
            refine awp_reg kpNone [(0, .tuple [])] [] [0, 9, 10, 11] (cs := [(Det Tryz.prog 133 [AV.int 1] (.ret (.tuple [])))]) (st' := ⟨33, [(0, .inp a0.cs), (9, AV.lst 1 AV.int a0.On), (10, AV.int (List.length a0.On : Int)), (11, AV.int p7)], [], [], []⟩) (by kernel_rfl) ⟨c133 1 (.ret x20_0) hx20_0, trivial⟩ ?_
            exact hJ18 () _ h (Le.rfl')
          · rw [if_false hb] at h
            obtain ⟨hp22_3, h⟩ := guardP h
            obtain ⟨x22_5, hx22_5, h⟩ := Option.bind_eq_some_iff.1 h
            refine awp_sr kpNone [(3, AV.lst 1 AV.int (List.drop 0 (List.take (Int.toNat p7) a0.On))), (5, AV.bool x22_5)] [] [0, 9, 10, 11, 24] (cs := [(0 ≤ p7), (0 ≤ Int.toNat p7), (Int.toNat p7 ≤ List.length (List.map AV.int a0.On)), (List.drop 0 (List.take (Int.toNat p7) (List.map AV.int a0.On)) = List.map AV.int (List.drop 0 (List.take (Int.toNat p7) a0.On))), (Det Tryz.prog 134 [AV.lst 1 AV.int (List.drop 0 (List.take (Int.toNat p7) a0.On)), AV.int x13_1] (.ret (AV.bool x22_5)))]) (st' := ⟨33, [(0, .inp a0.cs), (9, AV.lst 1 AV.int a0.On), (10, AV.int (List.length a0.On : Int)), (11, AV.int p7), (24, AV.bool x22_5)], [], [], []⟩) (by kernel_rfl) ⟨hp22_3.1, hp22_3.2.1, len_le _ _ hp22_3.2.2, lst_cut _ _ _ _, c134 (List.drop 0 (List.take (Int.toNat p7) a0.On)) x13_1 _ hx22_5, trivial⟩ ?_
            refine awp_to (σ := Unit) (fun p23 => ⟨33, [(0, .inp a0.cs), (9, AV.lst 1 AV.int a0.On), (10, AV.int (List.length a0.On : Int)), (11, AV.int p7)], [], [], []⟩) (fun p23 => F132.j23 rec7 p7 p23 = some r) (fun p23 h => ?_) (fun N23 hJ23 => ?_)
            · unfold F132.j23 at h
              exact hJ18 () _ h (Le.rfl')
            · refine awp_cond (t := x22_5) rfl (fun hb => ?_) (fun hb => ?_)
              · rw [if_pos hb] at h
                rcases thn_some h with ⟨e, hx24_0, hr⟩ | ⟨x24_0, hx24_0, h⟩
                · subst hr
                  refine awp_panT kpNone [] [] 0 (v := AV.iface 279 (.agg [AV.int e])) (cs := [(Det Tryz.prog 133 [AV.int 6] (.panic (AV.iface 279 (.agg [AV.int e]))))]) (st' := ⟨33, [], [], [], []⟩) (by kernel_rfl) ⟨c133 6 (.stop e) hx24_0, trivial⟩ ?_
                  exact Lw.refl _
                refine awp_reg kpNone [(0, .tuple [])] [] [0, 9, 10, 11] (cs := [(Det Tryz.prog 133 [AV.int 6] (.ret (.tuple [])))]) (st' := ⟨33, [(0, .inp a0.cs), (9, AV.lst 1 AV.int a0.On), (10, AV.int (List.length a0.On : Int)), (11, AV.int p7)], [], [], []⟩) (by kernel_rfl) ⟨c133 6 (.ret x24_0) hx24_0, trivial⟩ ?_
                exact hJ23 () _ h (Le.rfl')
              · rw [if_false hb] at h
                refine awp_skip ?_
                exact hJ23 () _ h (Le.mk rfl ⟨rfl, .inl rfl, rfl, rfl, trivial⟩ trivial trivial trivial)
      · by_cases hg16 : decide (x13_1 < (1 : Int)) = true
        · refine awp_reg kpNone [] [(2, true)] [0, 1, 2, 9, 10, 11, 16] (cs := [(decide (x13_1 < (1 : Int)) = true)]) (st' := ⟨33, [(0, .inp a0.cs), (1, AV.int p7), (2, AV.int x13_1), (9, AV.lst 1 AV.int a0.On), (10, AV.int (List.length a0.On : Int)), (11, AV.int p7), (16, AV.bool true)], [], [], []⟩) (by kernel_rfl) ⟨hg16, trivial⟩ ?_
          exact hJ17 true _ (by first | rfl | (rw [hg16]; done) | (rw [hg16]; rfl) | (simp [hg16]; done) | (exfalso; revert hg16; simp; done) | (exfalso; revert hg16; simp; intros; assumption)) (Le.rfl')
        · have hg16 := Bool.eq_false_iff.2 hg16
          refine awp_reg kpNone [] [(2, false)] [0, 1, 2, 9, 10, 11, 16] (cs := [(decide (x13_1 < (1 : Int)) = false)]) (st' := ⟨33, [(0, .inp a0.cs), (1, AV.int p7), (2, AV.int x13_1), (9, AV.lst 1 AV.int a0.On), (10, AV.int (List.length a0.On : Int)), (11, AV.int p7), (16, AV.bool (decide ((5 : Int) < x13_1)))], [], [], []⟩) (by kernel_rfl) ⟨hg16, trivial⟩ ?_
          exact hJ17 (decide ((5 : Int) < x13_1)) _ (by first | rfl | (rw [hg16]; done) | (rw [hg16]; rfl) | (simp [hg16]; done) | (exfalso; revert hg16; simp; done) | (exfalso; revert hg16; simp; intros; assumption)) (Le.rfl')
    · rw [if_false hb] at h
      refine awp_exit ?_
      have h := Option.some.inj h
      subst h
      try simp only [thenA, blockA, eq_self, if_true]
      exact (show endQ _ _ _ .normal _ from ⟨[], by kernel_rfl, Lw.refl _⟩)
  · refine awp_cond (t := decide ((8 : Int) < (List.length a0.On : Int))) rfl (fun hb => ?_) (fun hb => ?_)
    · rw [if_pos hb] at h
      rcases thn_some h with ⟨e, hx25_0, hr⟩ | ⟨x25_0, hx25_0, h⟩
      · subst hr
        refine awp_panT kpNone [] [] 0 (v := AV.iface 279 (.agg [AV.int e])) (cs := [(Det Tryz.prog 133 [AV.int 4] (.panic (AV.iface 279 (.agg [AV.int e]))))]) (st' := ⟨33, [], [], [], []⟩) (by kernel_rfl) ⟨c133 4 (.stop e) hx25_0, trivial⟩ ?_
        exact Lw.refl _
      refine awp_reg kpNone [(0, .tuple [])] [] [0] (cs := [(Det Tryz.prog 133 [AV.int 4] (.ret (.tuple [])))]) (st' := ⟨33, [(0, .inp a0.cs)], [], [], []⟩) (by kernel_rfl) ⟨c133 4 (.ret x25_0) hx25_0, trivial⟩ ?_
      exact hJ4 () _ h (Le.rfl')
    · rw [if_false hb] at h
      refine awp_skip ?_
      exact hJ4 () _ h (Le.mk rfl ⟨rfl, trivial⟩ trivial trivial trivial)
def A132.l7 (a0 : Conf) : (Int) → Option (Res Unit) := iterL (F132.l7 a0) 4096
def A132 (a0 : Conf) : Option (Res Unit) := F132 (A132.l7 a0) a0
theorem d132 (a0 : Conf) (r : (Res Unit)) (h : A132 a0 = some r) :
    Det Tryz.prog 132 [.inp a0.cs] (Res.out 279 (fun r => .tuple []) r) := by
  exact c132 a0 (A132.l7 a0) (rounds_iter _ _) r h


end Go.Proofs.Eng
