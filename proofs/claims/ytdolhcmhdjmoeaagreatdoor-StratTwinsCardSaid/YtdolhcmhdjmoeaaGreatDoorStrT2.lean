/- Printed walks and contracts. -/
import Derived.Test.YtdolhcmhdjmoeaaGreatDoorStrT1
set_option linter.unusedSimpArgs false
set_option linter.unusedVariables false
set_option maxRecDepth 100000
namespace Go.Proofs.Eng
open Go Go.Proofs Go.Sort
-- strat.bad$3$1
def F235 (a0 : Pod) (a1 : Pod) : Option Bool :=
  some ((decide (a0.Owner = a1.Owner)) && ((!a0.Hold) && (Op.bytesLess a0.Name a1.Name)))
/-- ballast/strat.bad$3$1 -/
theorem c235 (a0 : Pod) (a1 : Pod) (r : Bool) (h : F235 a0 a1 = some r) :
    Det Tryz.prog 235 [Pod.av a0, .inp a1.cs] (.ret (AV.bool r)) := by
  refine Det.of_le ?_
  refine @calls_of_body Tryz.prog 235 Tryz.f235 _ Tryz.func235 rfl (by kernel_rfl) [.tmp 3] (by rw [Tryz.results235]) 21 Tryz.ntmps235 _ _ _ (by simp only [List.length_cons, List.length_nil]; decide) ?_
  unfold F235 at h
  refine awp_sr kpNone [] [] [1, 2] (cs := []) (st' := ⟨21, [(1, .inp a1.cs), (2, .varp 2 0)], [(2, (false, a0.cs))], [], []⟩) (by kernel_rfl) trivial ?_
  refine awp_seq fun N3 hN3 => ?_
  refine awp_to (σ := Bool) (fun p => ⟨21, [(3, AV.bool p)], [(2, (false, a0.cs))], [], []⟩) (fun p => p = ((decide (a0.Owner = a1.Owner)) && ((!a0.Hold) && (Op.bytesLess a0.Name a1.Name)))) (fun p hp => ?_) (fun N7 hJ7 => ?_)
  · subst hp
    refine hN3 _ ?_
    have h := Option.some.inj h
    subst h
    exact awp_ret ⟨[AV.bool ((decide (a0.Owner = a1.Owner)) && ((!a0.Hold) && (Op.bytesLess a0.Name a1.Name)))], by kernel_rfl, Lw.refl _⟩
  · by_cases hg5 : decide (a0.Owner = a1.Owner) = true
    · by_cases hg6 : (!a0.Hold) = true
      · refine awp_reg kpNone [] [(5, true), (10, true)] [3] (cs := [(decide (a0.Owner = a1.Owner) = true), ((!a0.Hold) = true)]) (st' := ⟨21, [(3, AV.bool (Op.bytesLess a0.Name a1.Name))], [(2, (false, a0.cs))], [], []⟩) (by kernel_rfl) ⟨hg5, hg6, trivial⟩ ?_
        exact hJ7 (Op.bytesLess a0.Name a1.Name) _ (by first | rfl | (rw [hg5, hg6]; done) | (rw [hg5, hg6]; rfl) | (simp [hg5, hg6]; done) | (exfalso; revert hg5 hg6; simp; done) | (exfalso; revert hg5 hg6; simp; intros; assumption)) (Le.rfl')
      · have hg6 := Bool.eq_false_iff.2 hg6
        refine awp_reg kpNone [] [(5, true), (10, false)] [3] (cs := [(decide (a0.Owner = a1.Owner) = true), ((!a0.Hold) = false)]) (st' := ⟨21, [(3, AV.bool false)], [(2, (false, a0.cs))], [], []⟩) (by kernel_rfl) ⟨hg5, hg6, trivial⟩ ?_
        exact hJ7 false _ (by first | rfl | (rw [hg5, hg6]; done) | (rw [hg5, hg6]; rfl) | (simp [hg5, hg6]; done) | (exfalso; revert hg5 hg6; simp; done) | (exfalso; revert hg5 hg6; simp; intros; assumption)) (Le.rfl')
    · have hg5 := Bool.eq_false_iff.2 hg5
      refine awp_reg kpNone [] [(5, false)] [3] (cs := [(decide (a0.Owner = a1.Owner) = false)]) (st' := ⟨21, [(3, AV.bool false)], [(2, (false, a0.cs))], [], []⟩) (by kernel_rfl) ⟨hg5, trivial⟩ ?_
      exact hJ7 false _ (by first | rfl | (rw [hg5]; done) | (rw [hg5]; rfl) | (simp [hg5]; done) | (exfalso; revert hg5; simp; done) | (exfalso; revert hg5; simp; intros; assumption)) (Le.rfl')


-- slices.IndexFunc[[]pod.Pod,pod.Pod]
def F224.l6 (a0 : (List Pod)) (g1 : Pod → Option Bool) (rec6 : (Int) → Option Int) : (Int) → Option Int := fun p6 =>
  if decide (p6 < (List.length a0 : Int)) = true then ((getI a0 p6).bind fun x14_3 => (g1 x14_3).bind fun x14_5 => if x14_5 = true then (some p6) else (rec6 (w64 (p6 + (1 : Int))))) else (some (-1))
def F224 (l6 : (Int) → Option Int) (a0 : (List Pod)) (g1 : Pod → Option Bool) : Option Int :=
  l6 0
/-- slices.IndexFunc[[]ballast/pod.Pod,ballast/pod.Pod] -/
theorem c224 (a0 : (List Pod)) (g1 : Pod → Option Bool) (gf1 : FuncId) (gc1 : List AV) (hc1 : List.map AV.cl0 gc1 = gc1) (hg1 : ∀ (y0 : Pod) (r : Bool), g1 y0 = some r → Det Tryz.prog gf1 ((Pod.av y0) :: List.map AV.cl gc1) (.ret (AV.bool r))) (l6 : (Int) → Option Int) (hl6 : Rounds (F224.l6 a0 g1) (l6)) (r : Int) (h : F224 l6 a0 g1 = some r) :
    Det Tryz.prog 224 [AV.lst 11 Pod.av a0, .func gf1 gc1] (.ret (AV.int r)) := by
  refine Det.of_le ?_
  refine @calls_of_body Tryz.prog 224 Tryz.f224 _ Tryz.func224 rfl (by kernel_rfl) [.tmp 4] (by rw [Tryz.results224]) 19 Tryz.ntmps224 _ _ _ (by simp only [List.length_cons, List.length_nil]; decide) ?_
  unfold F224 at h
  refine awp_sr kpNone [] [] [0, 1] (cs := []) (st' := ⟨19, [(0, AV.lst 11 Pod.av a0), (1, .func gf1 gc1)], [], [], []⟩) (by kernel_rfl) trivial ?_
  refine awp_seq fun N3 hN3 => ?_
  refine awp_sr kpNone [(1, AV.int (List.length a0 : Int))] [] [0, 1, 7, 8] (cs := [((AV.int (List.length a0 : Int) = .val (.int .i64 (List.length (List.map Pod.av a0) : Int))))]) (st' := ⟨19, [(0, AV.lst 11 Pod.av a0), (1, .func gf1 gc1), (7, AV.int (List.length a0 : Int)), (8, AV.int 0)], [], [], []⟩) (by kernel_rfl) ⟨len_map _ _, trivial⟩ ?_
  refine awp_block ?_
  refine awp_loop ?_
  refine awpL_le (st' := ⟨19, [(0, AV.lst 11 Pod.av a0), (1, .func gf1 gc1), (7, AV.int (List.length a0 : Int)), (8, AV.int 0)], [], [], []⟩) ?_ ?_
  · exact Le.rfl'
  refine awpL_fix hl6 r (fun p6 => ⟨19, [(0, AV.lst 11 Pod.av a0), (1, .func gf1 gc1), (7, AV.int (List.length a0 : Int)), (8, AV.int p6)], [], [], []⟩) (fun rec6 hrec6 p6 h => ?_) 0 h
  unfold F224.l6 at h
  refine awpL_round ?_
  refine awp_sr kpNone [] [] [0, 1, 7, 8, 9] (cs := []) (st' := ⟨19, [(0, AV.lst 11 Pod.av a0), (1, .func gf1 gc1), (7, AV.int (List.length a0 : Int)), (8, AV.int p6), (9, AV.bool (decide (p6 < (List.length a0 : Int))))], [], [], []⟩) (by kernel_rfl) trivial ?_
  refine awp_seq fun N9 hN9 => ?_
  refine awp_cond (t := decide (p6 < (List.length a0 : Int))) rfl (fun hb => ?_) (fun hb => ?_)
  · rw [if_pos hb] at h
    refine awp_skip ?_
    refine hN9 _ ?_
    refine awp_seq fun N10 hN10 => ?_
    refine awp_block ?_
    refine awp_sr kpNone [] [] [0, 1, 5, 7, 8] (cs := []) (st' := ⟨19, [(0, AV.lst 11 Pod.av a0), (1, .func gf1 gc1), (5, AV.int p6), (7, AV.int (List.length a0 : Int)), (8, AV.int p6)], [], [], []⟩) (by kernel_rfl) trivial ?_
    obtain ⟨x14_3, hx14_3, h⟩ := Option.bind_eq_some_iff.1 h
    obtain ⟨x14_5, hx14_5, h⟩ := Option.bind_eq_some_iff.1 h
    refine awp_sr kpNone [(3, Pod.av x14_3), (5, AV.bool x14_5)] [] [0, 1, 5, 7, 8, 16] (cs := [(0 ≤ p6), ((List.map Pod.av a0)[Int.toNat p6]? = some (Pod.av x14_3)), (Det Tryz.prog gf1 ((Pod.av x14_3) :: List.map AV.cl gc1) (.ret (AV.bool x14_5)))]) (st' := ⟨19, [(0, AV.lst 11 Pod.av a0), (1, .func gf1 gc1), (5, AV.int p6), (7, AV.int (List.length a0 : Int)), (8, AV.int p6), (16, AV.bool x14_5)], [], [], []⟩) (by kernel_rfl) ⟨getI_le hx14_3, getI_map hx14_3 _, hg1 x14_3 _ hx14_5, trivial⟩ ?_
    refine awp_cond (t := x14_5) rfl (fun hb => ?_) (fun hb => ?_)
    · rw [if_pos hb] at h
      refine awp_sr kpNone [] [] [4] (cs := []) (st' := ⟨19, [(4, AV.int p6)], [], [], []⟩) (by kernel_rfl) trivial ?_
      have h := Option.some.inj h
      subst h
      exact awp_ret ⟨[AV.int p6], by kernel_rfl, Lw.refl _⟩
    · rw [if_false hb] at h
      refine awp_skip ?_
      refine hN10 _ ?_
      refine awp_reg kpNone [] [] [0, 1, 7, 8] (cs := []) (st' := ⟨19, [(0, AV.lst 11 Pod.av a0), (1, .func gf1 gc1), (7, AV.int (List.length a0 : Int)), (8, AV.int (w64 (p6 + (1 : Int))))], [], [], []⟩) (by kernel_rfl) trivial ?_
      refine awpL_le ?_ (hrec6 _ h)
      exact Le.rfl'
  · rw [if_false hb] at h
    refine awp_exit ?_
    refine hN3 _ ?_
    refine awp_sr kpNone [] [] [4] (cs := []) (st' := ⟨19, [(4, AV.int (-1))], [], [], []⟩) (by kernel_rfl) trivial ?_
    have h := Option.some.inj h
    subst h
    exact awp_ret ⟨[AV.int (-1)], by kernel_rfl, Lw.refl _⟩
-- {"kind": "opt", "S": "(fun l g => idxF g 0 l)", "thm": "d224"}
theorem d224 (a0 : List Pod) (g1 : Pod → Option Bool) (gf1 : FuncId) (gc1 : List AV) (hc1 : List.map AV.cl0 gc1 = gc1) (hg1 : ∀ (y0 : Pod) (r : Bool), g1 y0 = some r → Det Tryz.prog gf1 ((Pod.av y0) :: List.map AV.cl gc1) (.ret (AV.bool r))) (r : Int) (h : idxF g1 0 a0 = some r) :
    Det Tryz.prog 224 [AV.lst 11 Pod.av a0, .func gf1 gc1] (.ret (AV.int r)) := by
  refine Det.len 0 rfl fun hl => c224 a0 g1 gf1 gc1 hc1 hg1 _ (rounds_at a0 hl (fun p t => idxF g1 p t) _ ?_ ?_) _ ?_
  · intro rec
    simp [F224.l6, idxF]
  · intro rec p x t h0 h1 hx hr hw
    simp only [F224.l6, hx, hw, hr, h1, decide_true, if_true, Option.bind_some, idxF]
  · simp [F224, h]


-- slices.ContainsFunc[[]pod.Pod,pod.Pod]
def F234 (a0 : (List Pod)) (g1 : Pod → Option Bool) : Option Bool :=
  ((fun l g => idxF g 0 l) a0 g1).bind fun x4_2 => some (decide ((0 : Int) ≤ x4_2))
/-- slices.ContainsFunc[[]ballast/pod.Pod,ballast/pod.Pod] -/
theorem c234 (a0 : (List Pod)) (g1 : Pod → Option Bool) (gf1 : FuncId) (gc1 : List AV) (hc1 : List.map AV.cl0 gc1 = gc1) (hg1 : ∀ (y0 : Pod) (r : Bool), g1 y0 = some r → Det Tryz.prog gf1 ((Pod.av y0) :: List.map AV.cl gc1) (.ret (AV.bool r))) (r : Bool) (h : F234 a0 g1 = some r) :
    Det Tryz.prog 234 [AV.lst 11 Pod.av a0, .func gf1 gc1] (.ret (AV.bool r)) := by
  refine Det.of_le ?_
  refine @calls_of_body Tryz.prog 234 Tryz.f234 _ Tryz.func234 rfl (by kernel_rfl) [.tmp 4] (by rw [Tryz.results234]) 9 Tryz.ntmps234 _ _ _ (by simp only [List.length_cons, List.length_nil]; decide) ?_
  unfold F234 at h
  refine awp_sr kpNone [] [] [0, 1] (cs := []) (st' := ⟨9, [(0, AV.lst 11 Pod.av a0), (1, .func gf1 gc1)], [], [], []⟩) (by kernel_rfl) trivial ?_
  obtain ⟨x4_2, hx4_2, h⟩ := Option.bind_eq_some_iff.1 h
  refine awp_sr kpNone [(2, AV.int x4_2)] [] [4] (cs := [(Det Tryz.prog 224 [AV.lst 11 Pod.av a0, .func gf1 (List.map AV.cl0 gc1)] (.ret (AV.int x4_2)))]) (st' := ⟨9, [(4, AV.bool (decide ((0 : Int) ≤ x4_2)))], [], [], []⟩) (by kernel_rfl) ⟨by rw [hc1]; exact (d224 a0 g1 gf1 gc1 hc1 hg1 _ hx4_2), trivial⟩ ?_
  have h := Option.some.inj h
  subst h
  exact awp_ret ⟨[AV.bool (decide ((0 : Int) ≤ x4_2))], by kernel_rfl, Lw.refl _⟩
-- {"kind": "opt", "S": "(fun l g => anyF g l)", "thm": "d234"}
theorem d234 (a0 : List Pod) (g1 : Pod → Option Bool) (gf1 : FuncId) (gc1 : List AV) (hc1 : List.map AV.cl0 gc1 = gc1) (hg1 : ∀ (y0 : Pod) (r : Bool), g1 y0 = some r → Det Tryz.prog gf1 ((Pod.av y0) :: List.map AV.cl gc1) (.ret (AV.bool r))) (r : Bool) (h : anyF g1 a0 = some r) :
    Det Tryz.prog 234 [AV.lst 11 Pod.av a0, .func gf1 gc1] (.ret (AV.bool r)) := by
  refine c234 a0 g1 gf1 gc1 hc1 hg1 _ ?_
  rw [← idxF_any g1 a0 0 (by omega)] at h
  exact h


-- strat.bad$3
def F233.j6  : (Bool) → Option Bool := fun p6 =>
  some p6
def F233 (a0 : Pod) (a1 : State) : Option Bool :=
  if decide (¬ a0.Owner = []) = true then ((onF a1 a0.Node).bind fun x4_7 => ((fun l g => anyF g l) x4_7 (fun y0 => F235 y0 a0)).bind fun x4_9 => F233.j6 x4_9) else (F233.j6 false)
/-- ballast/strat.bad$3 -/
theorem c233 (a0 : Pod) (a1 : State) (r : Bool) (h : F233 a0 a1 = some r) :
    Det Tryz.prog 233 [Pod.av a0, .inp a1.cs] (.ret (AV.bool r)) := by
  refine Det.of_le ?_
  refine @calls_of_body Tryz.prog 233 Tryz.f233 _ Tryz.func233 rfl (by kernel_rfl) [.tmp 3] (by rw [Tryz.results233]) 15 Tryz.ntmps233 _ _ _ (by simp only [List.length_cons, List.length_nil]; decide) ?_
  unfold F233 at h
  refine awp_sr kpNone [] [] [1, 2] (cs := []) (st' := ⟨15, [(1, .inp a1.cs), (2, .varp 2 0)], [(2, (false, a0.cs))], [], []⟩) (by kernel_rfl) trivial ?_
  refine awp_seq fun N3 hN3 => ?_
  refine awp_to (σ := Bool) (fun p6 => ⟨15, [(3, AV.bool p6)], [(2, (true, a0.cs))], [], []⟩) (fun p6 => F233.j6 p6 = some r) (fun p6 h => ?_) (fun N6 hJ6 => ?_)
  · unfold F233.j6 at h
    refine hN3 _ ?_
    have h := Option.some.inj h
    subst h
    exact awp_ret ⟨[AV.bool p6], by kernel_rfl, Lw.refl _⟩
  · by_cases hg5 : decide (¬ a0.Owner = []) = true
    · rw [if_pos hg5] at h
      obtain ⟨x4_7, hx4_7, h⟩ := Option.bind_eq_some_iff.1 h
      obtain ⟨x4_9, hx4_9, h⟩ := Option.bind_eq_some_iff.1 h
      refine awp_reg kpNone [(7, AV.lst 11 Pod.av x4_7), (9, AV.bool x4_9)] [(3, true)] [3] (cs := [(decide (¬ a0.Owner = []) = true), (Det Tryz.prog 50 [State.av a1, AV.str a0.Node] (.ret (AV.lst 11 Pod.av x4_7))), (Det Tryz.prog 234 [AV.lst 11 Pod.av x4_7, .func 235 [.inp a0.cs]] (.ret (AV.bool x4_9)))]) (st' := ⟨15, [(3, AV.bool x4_9)], [(2, (true, a0.cs))], [], []⟩) (by kernel_rfl) ⟨hg5, d50 a1 a0.Node _ hx4_7, d234 x4_7 (fun y0 => F235 y0 a0) 235 [.inp a0.cs] rfl (fun y0 _ hy => c235 y0 a0 _ hy) _ hx4_9, trivial⟩ ?_
      exact hJ6 x4_9 _ h (Le.rfl')
    · rw [if_neg hg5] at h
      have hg5 := Bool.eq_false_iff.2 hg5
      refine awp_reg kpNone [] [(3, false)] [3] (cs := [(decide (¬ a0.Owner = []) = false)]) (st' := ⟨15, [(3, AV.bool false)], [(2, (false, a0.cs))], [], []⟩) (by kernel_rfl) ⟨hg5, trivial⟩ ?_
      exact hJ6 false _ h (Le.trans (Le.freeze 2 a0.cs rfl rfl) (Le.mk rfl ⟨rfl, trivial⟩ ⟨⟨rfl, rfl⟩, trivial⟩ trivial trivial))


-- math.Float64frombits

-- alone
-- {"kind": "tot", "S": "frombits", "thm": "d310"}
theorem frombits_run (w : World) (n : Int) : (callFunc 310 #[.int .u64 n]).run Tryz.prog w = .ok (.value (.float .f64 (frombits n))) w := by kernel_rfl
theorem d310 (a0 : Int) : Det Tryz.prog 310 [AV.ik .u64 a0] (.ret (AV.fl (frombits a0))) := by
  refine Det.of_value ?_
  intro g w cargs h2 h3
  obtain ⟨x, rfl, hx⟩ := one_arg h2 h3
  obtain ⟨rfl, _⟩ := hx.plain_of
  exact ⟨.float .f64 (frombits a0), frombits_run w a0, fun D => .fl _ _ (.inl rfl)⟩


-- math.NaN
def F309 : Option Nat :=
  some (frombits 9221120237041090561)
/-- math.NaN -/
theorem c309 (r : Nat) (h : F309  = some r) :
    Det Tryz.prog 309 [] (.ret (AV.fl r)) := by
  refine Det.of_le ?_
  refine @calls_of_body Tryz.prog 309 Tryz.f309 _ Tryz.func309 rfl (by kernel_rfl) [.tmp 0] (by rw [Tryz.results309]) 2 Tryz.ntmps309 _ _ _ (by simp only [List.length_cons, List.length_nil]; decide) ?_
  unfold F309 at h
  refine awp_sr kpNone [] [] [] (cs := []) (st' := ⟨2, [], [], [], []⟩) (by kernel_rfl) trivial ?_
  refine awp_sr kpNone [(0, AV.fl (frombits 9221120237041090561))] [] [0] (cs := [(Det Tryz.prog 310 [AV.ik .u64 9221120237041090561] (.ret (AV.fl (frombits 9221120237041090561))))]) (st' := ⟨2, [(0, AV.fl (frombits 9221120237041090561))], [], [], []⟩) (by kernel_rfl) ⟨d310 9221120237041090561, trivial⟩ ?_
  have h := Option.some.inj h
  subst h
  exact awp_ret ⟨[AV.fl (frombits 9221120237041090561)], by kernel_rfl, Lw.refl _⟩


-- res.Get$1
def F179 (a0 : Amount) (a1 : Str) : Option Bool :=
  some (decide (a0.Name = a1))
/-- ballast/res.Get$1 -/
theorem c179 (a0 : Amount) (a1 : Str) (r : Bool) (h : F179 a0 a1 = some r) :
    Det Tryz.prog 179 [Amount.av a0, .inp [AV.str a1]] (.ret (AV.bool r)) := by
  refine Det.of_le ?_
  refine @calls_of_body Tryz.prog 179 Tryz.f179 _ Tryz.func179 rfl (by kernel_rfl) [.tmp 3] (by rw [Tryz.results179]) 8 Tryz.ntmps179 _ _ _ (by simp only [List.length_cons, List.length_nil]; decide) ?_
  unfold F179 at h
  refine awp_sr kpNone [] [] [1, 2] (cs := []) (st' := ⟨8, [(1, .inp [AV.str a1]), (2, .varp 2 0)], [(2, (false, [AV.str a0.Name, AV.int a0.N]))], [], []⟩) (by kernel_rfl) trivial ?_
  refine awp_sr kpNone [] [] [3] (cs := []) (st' := ⟨8, [(3, AV.bool (decide (a0.Name = a1)))], [(2, (false, [AV.str a0.Name, AV.int a0.N]))], [], []⟩) (by kernel_rfl) trivial ?_
  have h := Option.some.inj h
  subst h
  exact awp_ret ⟨[AV.bool (decide (a0.Name = a1))], by kernel_rfl, Lw.refl _⟩


-- slices.IndexFunc[res.Vec,res.Amount]
def F178.l6 (a0 : (List Amount)) (g1 : Amount → Option Bool) (rec6 : (Int) → Option Int) : (Int) → Option Int := fun p6 =>
  if decide (p6 < (List.length a0 : Int)) = true then ((getI a0 p6).bind fun x14_3 => (g1 x14_3).bind fun x14_5 => if x14_5 = true then (some p6) else (rec6 (w64 (p6 + (1 : Int))))) else (some (-1))
def F178 (l6 : (Int) → Option Int) (a0 : (List Amount)) (g1 : Amount → Option Bool) : Option Int :=
  l6 0
/-- slices.IndexFunc[ballast/res.Vec,ballast/res.Amount] -/
theorem c178 (a0 : (List Amount)) (g1 : Amount → Option Bool) (gf1 : FuncId) (gc1 : List AV) (hc1 : List.map AV.cl0 gc1 = gc1) (hg1 : ∀ (y0 : Amount) (r : Bool), g1 y0 = some r → Det Tryz.prog gf1 ((Amount.av y0) :: List.map AV.cl gc1) (.ret (AV.bool r))) (l6 : (Int) → Option Int) (hl6 : Rounds (F178.l6 a0 g1) (l6)) (r : Int) (h : F178 l6 a0 g1 = some r) :
    Det Tryz.prog 178 [AV.lst 2 Amount.av a0, .func gf1 gc1] (.ret (AV.int r)) := by
  refine Det.of_le ?_
  refine @calls_of_body Tryz.prog 178 Tryz.f178 _ Tryz.func178 rfl (by kernel_rfl) [.tmp 4] (by rw [Tryz.results178]) 19 Tryz.ntmps178 _ _ _ (by simp only [List.length_cons, List.length_nil]; decide) ?_
  unfold F178 at h
  refine awp_sr kpNone [] [] [0, 1] (cs := []) (st' := ⟨19, [(0, AV.lst 2 Amount.av a0), (1, .func gf1 gc1)], [], [], []⟩) (by kernel_rfl) trivial ?_
  refine awp_seq fun N3 hN3 => ?_
  refine awp_sr kpNone [(1, AV.int (List.length a0 : Int))] [] [0, 1, 7, 8] (cs := [((AV.int (List.length a0 : Int) = .val (.int .i64 (List.length (List.map Amount.av a0) : Int))))]) (st' := ⟨19, [(0, AV.lst 2 Amount.av a0), (1, .func gf1 gc1), (7, AV.int (List.length a0 : Int)), (8, AV.int 0)], [], [], []⟩) (by kernel_rfl) ⟨len_map _ _, trivial⟩ ?_
  refine awp_block ?_
  refine awp_loop ?_
  refine awpL_le (st' := ⟨19, [(0, AV.lst 2 Amount.av a0), (1, .func gf1 gc1), (7, AV.int (List.length a0 : Int)), (8, AV.int 0)], [], [], []⟩) ?_ ?_
  · exact Le.rfl'
  refine awpL_fix hl6 r (fun p6 => ⟨19, [(0, AV.lst 2 Amount.av a0), (1, .func gf1 gc1), (7, AV.int (List.length a0 : Int)), (8, AV.int p6)], [], [], []⟩) (fun rec6 hrec6 p6 h => ?_) 0 h
  unfold F178.l6 at h
  refine awpL_round ?_
  refine awp_sr kpNone [] [] [0, 1, 7, 8, 9] (cs := []) (st' := ⟨19, [(0, AV.lst 2 Amount.av a0), (1, .func gf1 gc1), (7, AV.int (List.length a0 : Int)), (8, AV.int p6), (9, AV.bool (decide (p6 < (List.length a0 : Int))))], [], [], []⟩) (by kernel_rfl) trivial ?_
  refine awp_seq fun N9 hN9 => ?_
  refine awp_cond (t := decide (p6 < (List.length a0 : Int))) rfl (fun hb => ?_) (fun hb => ?_)
  · rw [if_pos hb] at h
    refine awp_skip ?_
    refine hN9 _ ?_
    refine awp_seq fun N10 hN10 => ?_
    refine awp_block ?_
    refine awp_sr kpNone [] [] [0, 1, 5, 7, 8] (cs := []) (st' := ⟨19, [(0, AV.lst 2 Amount.av a0), (1, .func gf1 gc1), (5, AV.int p6), (7, AV.int (List.length a0 : Int)), (8, AV.int p6)], [], [], []⟩) (by kernel_rfl) trivial ?_
    obtain ⟨x14_3, hx14_3, h⟩ := Option.bind_eq_some_iff.1 h
    obtain ⟨x14_5, hx14_5, h⟩ := Option.bind_eq_some_iff.1 h
    refine awp_sr kpNone [(3, Amount.av x14_3), (5, AV.bool x14_5)] [] [0, 1, 5, 7, 8, 16] (cs := [(0 ≤ p6), ((List.map Amount.av a0)[Int.toNat p6]? = some (Amount.av x14_3)), (Det Tryz.prog gf1 ((Amount.av x14_3) :: List.map AV.cl gc1) (.ret (AV.bool x14_5)))]) (st' := ⟨19, [(0, AV.lst 2 Amount.av a0), (1, .func gf1 gc1), (5, AV.int p6), (7, AV.int (List.length a0 : Int)), (8, AV.int p6), (16, AV.bool x14_5)], [], [], []⟩) (by kernel_rfl) ⟨getI_le hx14_3, getI_map hx14_3 _, hg1 x14_3 _ hx14_5, trivial⟩ ?_
    refine awp_cond (t := x14_5) rfl (fun hb => ?_) (fun hb => ?_)
    · rw [if_pos hb] at h
      refine awp_sr kpNone [] [] [4] (cs := []) (st' := ⟨19, [(4, AV.int p6)], [], [], []⟩) (by kernel_rfl) trivial ?_
      have h := Option.some.inj h
      subst h
      exact awp_ret ⟨[AV.int p6], by kernel_rfl, Lw.refl _⟩
    · rw [if_false hb] at h
      refine awp_skip ?_
      refine hN10 _ ?_
      refine awp_reg kpNone [] [] [0, 1, 7, 8] (cs := []) (st' := ⟨19, [(0, AV.lst 2 Amount.av a0), (1, .func gf1 gc1), (7, AV.int (List.length a0 : Int)), (8, AV.int (w64 (p6 + (1 : Int))))], [], [], []⟩) (by kernel_rfl) trivial ?_
      refine awpL_le ?_ (hrec6 _ h)
      exact Le.rfl'
  · rw [if_false hb] at h
    refine awp_exit ?_
    refine hN3 _ ?_
    refine awp_sr kpNone [] [] [4] (cs := []) (st' := ⟨19, [(4, AV.int (-1))], [], [], []⟩) (by kernel_rfl) trivial ?_
    have h := Option.some.inj h
    subst h
    exact awp_ret ⟨[AV.int (-1)], by kernel_rfl, Lw.refl _⟩
-- {"kind": "opt", "S": "(fun l g => idxF g 0 l)", "thm": "d178"}
theorem d178 (a0 : List Amount) (g1 : Amount → Option Bool) (gf1 : FuncId) (gc1 : List AV) (hc1 : List.map AV.cl0 gc1 = gc1) (hg1 : ∀ (y0 : Amount) (r : Bool), g1 y0 = some r → Det Tryz.prog gf1 ((Amount.av y0) :: List.map AV.cl gc1) (.ret (AV.bool r))) (r : Int) (h : idxF g1 0 a0 = some r) :
    Det Tryz.prog 178 [AV.lst 2 Amount.av a0, .func gf1 gc1] (.ret (AV.int r)) := by
  refine Det.len 0 rfl fun hl => c178 a0 g1 gf1 gc1 hc1 hg1 _ (rounds_at a0 hl (fun p t => idxF g1 p t) _ ?_ ?_) _ ?_
  · intro rec
    simp [F178.l6, idxF]
  · intro rec p x t h0 h1 hx hr hw
    simp only [F178.l6, hx, hw, hr, h1, decide_true, if_true, Option.bind_some, idxF]
  · simp [F178, h]


-- res.Get
def F78 (a0 : (List Amount)) (a1 : Str) : Option Int :=
  ((fun l g => idxF g 0 l) a0 (fun y0 => F179 y0 a1)).bind fun x4_2 => if decide (x4_2 < (0 : Int)) = true then (some 0) else ((getI a0 x4_2).bind fun x11_2 => some x11_2.N)
/-- ballast/res.Get -/
theorem c78 (a0 : (List Amount)) (a1 : Str) (r : Int) (h : F78 a0 a1 = some r) :
    Det Tryz.prog 78 [AV.lst 2 Amount.av a0, AV.str a1] (.ret (AV.int r)) := by
  refine Det.of_le ?_
  refine @calls_of_body Tryz.prog 78 Tryz.f78 _ Tryz.func78 rfl (by kernel_rfl) [.tmp 4] (by rw [Tryz.results78]) 16 Tryz.ntmps78 _ _ _ (by simp only [List.length_cons, List.length_nil]; decide) ?_
  unfold F78 at h
  refine awp_sr kpNone [] [] [0, 3] (cs := []) (st' := ⟨16, [(0, AV.lst 2 Amount.av a0), (3, .varp 3 0)], [(3, (false, [AV.str a1]))], [], []⟩) (by kernel_rfl) trivial ?_
  obtain ⟨x4_2, hx4_2, h⟩ := Option.bind_eq_some_iff.1 h
  refine awp_sr kpNone [(2, AV.int x4_2)] [] [0, 5] (cs := [(Det Tryz.prog 178 [AV.lst 2 Amount.av a0, .func 179 [.inp [AV.str a1]]] (.ret (AV.int x4_2)))]) (st' := ⟨16, [(0, AV.lst 2 Amount.av a0), (5, AV.int x4_2)], [(3, (true, [AV.str a1]))], [], []⟩) (by kernel_rfl) ⟨d178 a0 (fun y0 => F179 y0 a1) 179 [.inp [AV.str a1]] rfl (fun y0 _ hy => c179 y0 a1 _ hy) _ hx4_2, trivial⟩ ?_
  refine awp_seq fun N5 hN5 => ?_
  refine awp_sr kpNone [] [] [0, 5, 10] (cs := []) (st' := ⟨16, [(0, AV.lst 2 Amount.av a0), (5, AV.int x4_2), (10, AV.bool (decide (x4_2 < (0 : Int))))], [(3, (true, [AV.str a1]))], [], []⟩) (by kernel_rfl) trivial ?_
  refine awp_cond (t := decide (x4_2 < (0 : Int))) rfl (fun hb => ?_) (fun hb => ?_)
  · rw [if_pos hb] at h
    refine awp_sr kpNone [] [] [4] (cs := []) (st' := ⟨16, [(4, AV.int 0)], [(3, (true, [AV.str a1]))], [], []⟩) (by kernel_rfl) trivial ?_
    have h := Option.some.inj h
    subst h
    exact awp_ret ⟨[AV.int 0], by kernel_rfl, Lw.refl _⟩
  · rw [if_false hb] at h
    refine awp_skip ?_
    refine hN5 _ ?_
    obtain ⟨x11_2, hx11_2, h⟩ := Option.bind_eq_some_iff.1 h
    refine awp_sr kpNone [(2, Amount.av x11_2)] [] [4] (cs := [(0 ≤ x4_2), ((List.map Amount.av a0)[Int.toNat x4_2]? = some (Amount.av x11_2))]) (st' := ⟨16, [(4, AV.int x11_2.N)], [(3, (true, [AV.str a1]))], [], []⟩) (by kernel_rfl) ⟨getI_le hx11_2, getI_map hx11_2 _, trivial⟩ ?_
    have h := Option.some.inj h
    subst h
    exact awp_ret ⟨[AV.int x11_2.N], by kernel_rfl, Lw.refl _⟩


-- qty.both
def F272 (a0 : Int) (a1 : Int) : Option Int :=
  if ((decide (a0 < (0 : Int))) || (decide (a1 < (0 : Int)))) = true then (some 1) else (some 0)
/-- ballast/qty.both -/
theorem c272 (a0 : Int) (a1 : Int) (r : Int) (h : F272 a0 a1 = some r) :
    Det Tryz.prog 272 [AV.int a0, AV.int a1] (.ret (AV.int r)) := by
  refine Det.of_le ?_
  refine @calls_of_body Tryz.prog 272 Tryz.f272 _ Tryz.func272 rfl (by kernel_rfl) [.tmp 4] (by rw [Tryz.results272]) 11 Tryz.ntmps272 _ _ _ (by simp only [List.length_cons, List.length_nil]; decide) ?_
  unfold F272 at h
  refine awp_sr kpNone [] [] [0, 1] (cs := []) (st' := ⟨11, [(0, AV.int a0), (1, AV.int a1)], [], [], []⟩) (by kernel_rfl) trivial ?_
  refine awp_seq fun N3 hN3 => ?_
  refine awp_seq fun N4 hN4 => ?_
  refine awp_to (σ := Bool) (fun p => ⟨11, [(10, AV.bool p)], [], [], []⟩) (fun p => p = ((decide (a0 < (0 : Int))) || (decide (a1 < (0 : Int))))) (fun p hp => ?_) (fun N7 hJ7 => ?_)
  · subst hp
    refine hN4 _ ?_
    refine awp_cond (t := ((decide (a0 < (0 : Int))) || (decide (a1 < (0 : Int))))) rfl (fun hb => ?_) (fun hb => ?_)
    · rw [if_pos hb] at h
      refine awp_sr kpNone [] [] [4] (cs := []) (st' := ⟨11, [(4, AV.int 1)], [], [], []⟩) (by kernel_rfl) trivial ?_
      have h := Option.some.inj h
      subst h
      exact awp_ret ⟨[AV.int 1], by kernel_rfl, Lw.refl _⟩
    · rw [if_false hb] at h
      refine awp_skip ?_
      refine hN3 _ ?_
      refine awp_sr kpNone [] [] [4] (cs := []) (st' := ⟨11, [(4, AV.int 0)], [], [], []⟩) (by kernel_rfl) trivial ?_
      have h := Option.some.inj h
      subst h
      exact awp_ret ⟨[AV.int 0], by kernel_rfl, Lw.refl _⟩
  · by_cases hg6 : decide (a0 < (0 : Int)) = true
    · refine awp_reg kpNone [] [(2, true)] [10] (cs := [(decide (a0 < (0 : Int)) = true)]) (st' := ⟨11, [(10, AV.bool true)], [], [], []⟩) (by kernel_rfl) ⟨hg6, trivial⟩ ?_
      exact hJ7 true _ (by first | rfl | (rw [hg6]; done) | (rw [hg6]; rfl) | (simp [hg6]; done) | (exfalso; revert hg6; simp; done) | (exfalso; revert hg6; simp; intros; assumption)) (Le.rfl')
    · have hg6 := Bool.eq_false_iff.2 hg6
      refine awp_reg kpNone [] [(2, false)] [10] (cs := [(decide (a0 < (0 : Int)) = false)]) (st' := ⟨11, [(10, AV.bool (decide (a1 < (0 : Int))))], [], [], []⟩) (by kernel_rfl) ⟨hg6, trivial⟩ ?_
      exact hJ7 (decide (a1 < (0 : Int))) _ (by first | rfl | (rw [hg6]; done) | (rw [hg6]; rfl) | (simp [hg6]; done) | (exfalso; revert hg6; simp; done) | (exfalso; revert hg6; simp; intros; assumption)) (Le.rfl')


-- qty.told
def F273 (a0 : Int) (a1 : Bool) : Option (Int × Int) :=
  if (a1 || (decide ((9223372036854775807 : Int) < a0))) = true then (some (0, 5)) else (some (IntKind.wrap .i64 a0, 0))
/-- ballast/qty.told -/
theorem c273 (a0 : Int) (a1 : Bool) (r : (Int × Int)) (h : F273 a0 a1 = some r) :
    Det Tryz.prog 273 [AV.ik .u64 a0, AV.bool a1] (.ret (.tuple [AV.int r.1, AV.int r.2])) := by
  refine Det.of_le ?_
  refine @calls_of_body Tryz.prog 273 Tryz.f273 _ Tryz.func273 rfl (by kernel_rfl) [.tmp 4, .tmp 5] (by rw [Tryz.results273]) 13 Tryz.ntmps273 _ _ _ (by simp only [List.length_cons, List.length_nil]; decide) ?_
  unfold F273 at h
  refine awp_sr kpNone [] [] [0, 1] (cs := []) (st' := ⟨13, [(0, AV.ik .u64 a0), (1, AV.bool a1)], [], [], []⟩) (by kernel_rfl) trivial ?_
  refine awp_seq fun N3 hN3 => ?_
  refine awp_seq fun N4 hN4 => ?_
  refine awp_to (σ := Bool) (fun p => ⟨13, [(0, AV.ik .u64 a0), (10, AV.bool p)], [], [], []⟩) (fun p => p = (a1 || (decide ((9223372036854775807 : Int) < a0)))) (fun p hp => ?_) (fun N7 hJ7 => ?_)
  · subst hp
    refine hN4 _ ?_
    refine awp_cond (t := (a1 || (decide ((9223372036854775807 : Int) < a0)))) rfl (fun hb => ?_) (fun hb => ?_)
    · rw [if_pos hb] at h
      refine awp_sr kpNone [] [] [4, 5] (cs := []) (st' := ⟨13, [(4, AV.int 0), (5, AV.int 5)], [], [], []⟩) (by kernel_rfl) trivial ?_
      have h := Option.some.inj h
      subst h
      exact awp_ret ⟨[AV.int 0, AV.int 5], by kernel_rfl, Lw.refl _⟩
    · rw [if_false hb] at h
      refine awp_skip ?_
      refine hN3 _ ?_
      refine awp_sr kpNone [] [] [4, 5] (cs := []) (st' := ⟨13, [(4, AV.int (IntKind.wrap .i64 a0)), (5, AV.int 0)], [], [], []⟩) (by kernel_rfl) trivial ?_
      have h := Option.some.inj h
      subst h
      exact awp_ret ⟨[AV.int (IntKind.wrap .i64 a0), AV.int 0], by kernel_rfl, Lw.refl _⟩
  · by_cases hg6 : a1 = true
    · refine awp_reg kpNone [] [(1, true)] [0, 10] (cs := [(a1 = true)]) (st' := ⟨13, [(0, AV.ik .u64 a0), (10, AV.bool true)], [], [], []⟩) (by kernel_rfl) ⟨hg6, trivial⟩ ?_
      exact hJ7 true _ (by first | rfl | (rw [hg6]; done) | (rw [hg6]; rfl) | (simp [hg6]; done) | (exfalso; revert hg6; simp; done) | (exfalso; revert hg6; simp; intros; assumption)) (Le.rfl')
    · have hg6 := Bool.eq_false_iff.2 hg6
      refine awp_reg kpNone [] [(1, false)] [0, 10] (cs := [(a1 = false)]) (st' := ⟨13, [(0, AV.ik .u64 a0), (10, AV.bool (decide ((9223372036854775807 : Int) < a0)))], [], [], []⟩) (by kernel_rfl) ⟨hg6, trivial⟩ ?_
      exact hJ7 (decide ((9223372036854775807 : Int) < a0)) _ (by first | rfl | (rw [hg6]; done) | (rw [hg6]; rfl) | (simp [hg6]; done) | (exfalso; revert hg6; simp; done) | (exfalso; revert hg6; simp; intros; assumption)) (Le.rfl')


-- qty.Add
def F176 (a0 : Int) (a1 : Int) : Option (Int × Int) :=
  (F272 a0 a1).bind fun x5_2 => if decide (¬ x5_2 = (0 : Int)) = true then (some (0, x5_2)) else ((F273 (IntKind.wrap .u64 ((IntKind.wrap .u64 a0) + (IntKind.wrap .u64 a1))) false).bind fun x11_5 => some (x11_5.1, x11_5.2))
/-- ballast/qty.Add -/
theorem c176 (a0 : Int) (a1 : Int) (r : (Int × Int)) (h : F176 a0 a1 = some r) :
    Det Tryz.prog 176 [AV.int a0, AV.int a1] (.ret (.tuple [AV.int r.1, AV.int r.2])) := by
  refine Det.of_le ?_
  refine @calls_of_body Tryz.prog 176 Tryz.f176 _ Tryz.func176 rfl (by kernel_rfl) [.tmp 4, .tmp 5] (by rw [Tryz.results176]) 21 Tryz.ntmps176 _ _ _ (by simp only [List.length_cons, List.length_nil]; decide) ?_
  unfold F176 at h
  refine awp_sr kpNone [] [] [0, 1] (cs := []) (st' := ⟨21, [(0, AV.int a0), (1, AV.int a1)], [], [], []⟩) (by kernel_rfl) trivial ?_
  refine awp_seq fun N3 hN3 => ?_
  obtain ⟨x5_2, hx5_2, h⟩ := Option.bind_eq_some_iff.1 h
  refine awp_sr kpNone [(2, AV.int x5_2)] [] [0, 1, 6] (cs := [(Det Tryz.prog 272 [AV.int a0, AV.int a1] (.ret (AV.int x5_2)))]) (st' := ⟨21, [(0, AV.int a0), (1, AV.int a1), (6, AV.int x5_2)], [], [], []⟩) (by kernel_rfl) ⟨c272 a0 a1 _ hx5_2, trivial⟩ ?_
  refine awp_sr kpNone [] [] [0, 1, 6, 11] (cs := []) (st' := ⟨21, [(0, AV.int a0), (1, AV.int a1), (6, AV.int x5_2), (11, AV.bool (decide (¬ x5_2 = (0 : Int))))], [], [], []⟩) (by kernel_rfl) trivial ?_
  refine awp_cond (t := decide (¬ x5_2 = (0 : Int))) rfl (fun hb => ?_) (fun hb => ?_)
  · rw [if_pos hb] at h
    refine awp_sr kpNone [] [] [4, 5] (cs := []) (st' := ⟨21, [(4, AV.int 0), (5, AV.int x5_2)], [], [], []⟩) (by kernel_rfl) trivial ?_
    have h := Option.some.inj h
    subst h
    exact awp_ret ⟨[AV.int 0, AV.int x5_2], by kernel_rfl, Lw.refl _⟩
  · rw [if_false hb] at h
    refine awp_skip ?_
    refine hN3 _ ?_
    obtain ⟨x11_5, hx11_5, h⟩ := Option.bind_eq_some_iff.1 h
    refine awp_sr kpNone [(5, .tuple [AV.int x11_5.1, AV.int x11_5.2])] [] [4, 5] (cs := [(Det Tryz.prog 273 [AV.ik .u64 (IntKind.wrap .u64 ((IntKind.wrap .u64 a0) + (IntKind.wrap .u64 a1))), AV.bool false] (.ret (.tuple [AV.int x11_5.1, AV.int x11_5.2])))]) (st' := ⟨21, [(4, AV.int x11_5.1), (5, AV.int x11_5.2)], [], [], []⟩) (by kernel_rfl) ⟨c273 (IntKind.wrap .u64 ((IntKind.wrap .u64 a0) + (IntKind.wrap .u64 a1))) false _ hx11_5, trivial⟩ ?_
    have h := Option.some.inj h
    subst h
    exact awp_ret ⟨[AV.int x11_5.1, AV.int x11_5.2], by kernel_rfl, Lw.refl _⟩


end Go.Proofs.Eng
