/- The row and the card of LevelEdges. -/
import Derived.Test.YtdolhcmhdjmoeaaDoorCards
import Derived.Test.YtdolhcmhdjmoeaaDoorTie
import Derived.Test.YtdolhcmhdjmoeaaDoorLawEdges
import Derived.Test.YtdolhcmhdjmoeaaDoorEddArgs
import Derived.Test.YtdolhcmhdjmoeaaDoorEddFacts
import Derived.WalkKit
import Derived.ProofKit
import Derived.OpenShut
import Derived.ShutString
import Derived.ChangeOld
import Derived.Below
import Derived.Carry
import Derived.SizedLaws
import Derived.Lay
import Derived.LaidOnce
import Derived.SevenTiedAt
set_option linter.unusedVariables false
set_option maxRecDepth 100000
namespace Go.Proofs.YtdolhcmhdjmoeaaDoor.levelEdges
open Go Go.Proofs Go.ChangeShapes Go.WideShapes Go.ChangeAt Go.RowKit Go.Lib
theorem andI {a b : Bool} (x : a = true) (y : b = true) : (a && b) = true := by rw [x, y]; rfl
theorem k0 : Rows.levelEdgesRow.wf (OpenSpec.ofChange Rows.levelEdgesSpec) = true := by kernel_rfl
theorem k3 : Tryd.f3.params.all (Tryd.prog.readableRec ·) = true := by kernel_rfl
theorem k4 : namedTie Tryd.prog Rows.levelEdgesRow.named Rows.levelEdgesSpec.vars = true := by kernel_rfl
theorem k5 : (Rows.levelEdgesRow.stops == []) = true := by kernel_rfl
theorem k7 : (Rows.levelEdgesRow.knobs == []) = true := by kernel_rfl
theorem k9 : (Rows.levelEdgesRow.inPlace == Tryd.prog.inPlace 3) = true := by kernel_rfl
theorem k10 : (Rows.levelEdgesRow.unfollowed == Tryd.prog.unfollowed 3) = true := by kernel_rfl
theorem k11 : (Rows.levelEdgesRow.recurses == Tryd.prog.recurses 3) = true := by kernel_rfl
theorem k12 : (Rows.levelEdgesRow.named == Tryd.prog.varsNamed 3) = true := by kernel_rfl
theorem k13 : (Rows.levelEdgesRow.maps == (Tryd.f3.params.toList ++ Rows.levelEdgesSpec.plain.varTypes Tryd.prog).any (Tryd.prog.mapsRec ·)) = true := by kernel_rfl
theorem k14 : (Rows.levelEdgesRow.ifaces == (Tryd.f3.params.toList ++ Rows.levelEdgesSpec.plain.varTypes Tryd.prog).any (Tryd.prog.ifacesRec ·)) = true := by kernel_rfl
theorem k15 : (Rows.levelEdgesRow.mapsOut == Tryd.prog.mapsAmong Tryd.f3.resultTypes.toList) = true := by kernel_rfl
theorem k16 : (Rows.levelEdgesRow.loops == (Tryd.f3.params.toList ++ Rows.levelEdgesSpec.plain.varTypes Tryd.prog).any (Tryd.prog.loopsFrom ·)) = true := by kernel_rfl
theorem k17 : (Rows.levelEdgesRow.wideKeys == (Tryd.f3.params.toList ++ Rows.levelEdgesSpec.plain.varTypes Tryd.prog ++ Tryd.f3.resultTypes.toList).any (Tryd.prog.wideKeysFrom ·)) = true := by kernel_rfl
theorem k18 : Rows.levelEdgesSpec.vars.all (Tryd.prog.varReadable ·) = true := by kernel_rfl
theorem k19 : Tryd.f3.resultTypes.all (fun t => Tryd.prog.readableRec t && decide (t < Tryd.prog.types.size)) = true := by kernel_rfl
theorem k20 : (Rows.levelEdgesRow.ifacesOut == Tryd.f3.resultTypes.toList.any (Tryd.prog.ifacesRec ·)) = true := by kernel_rfl
theorem k21 : (Rows.levelEdgesRow.loopsOut == Tryd.f3.resultTypes.toList.any (Tryd.prog.loopsFrom ·)) = true := by kernel_rfl
theorem k22 : (Rows.levelEdgesRow.plainKeys == Tryd.prog.plainKeys) = true := by rw [Facts.plainKeys]; kernel_rfl
theorem k23 : Rows.levelEdgesRow.shortTexts.isNone = true := by kernel_rfl
theorem k26 : (Rows.levelEdgesRow.lifted == Tryd.prog.liftsFinal) = true := by rw [Facts.liftsFinal]; kernel_rfl
theorem k27 : (Tryd.prog.make == some Rows.levelEdgesRow.make) = true := by rw [Facts.make]; kernel_rfl
theorem k28 : (Rows.levelEdgesRow.kinds == (if Rows.levelEdgesRow.domain.isEmpty then [] else Tryd.f3.params.toList.map fun t => match Tryd.prog.underlying t with | some (.int k) => some k | _ => none)) = true := by kernel_rfl
theorem k29 : (Rows.levelEdgesRow.pinned == Rows.levelEdgesRow.pinnedBy) = true := by kernel_rfl
theorem k30 : (Rows.levelEdgesRow.veiled == (Tryd.f3.params.toList ++ Rows.levelEdgesSpec.plain.varTypes Tryd.prog ++ Tryd.f3.resultTypes.toList).any (Tryd.prog.veiledRec ·)) = true := by kernel_rfl
theorem k31 : Rows.levelEdgesRow.veiledFits Tryd.prog Tryd.f3.params.toList (Tryd.f3.params.toList ++ Rows.levelEdgesSpec.plain.varTypes Tryd.prog ++ Tryd.f3.resultTypes.toList) = true := by kernel_rfl
theorem closed : joinedFacts Tryd.prog 3 Tryd.f3 Rows.levelEdgesSpec Rows.levelEdgesRow = true := andI (andI (andI (andI (andI (andI (andI (andI (andI (andI (andI (andI (andI (andI (andI (andI (andI (andI (andI (andI (andI (andI (andI (andI (andI (andI (andI (andI (andI (andI (andI k0 Facts.laidOut) Facts.mapsRowed) k3) k4) k5) Facts.stops) k7) Facts.stopKnobs) k9) k10) k11) k12) k13) k14) k15) k16) k17) k18) k19) k20) k21) k22) k23) Facts.stopsHeard) Facts.mayEnter) k26) k27) k28) k29) k30) k31
theorem own : ownKnob Tryd.prog.godebug = none := by kernel_rfl
theorem laidOut : laidOutB Tryd.prog = true := Facts.laidOut
theorem lifted (os : Os) (started : os.Started) (H : Type) (enc : TypeId × Value → H) :
    ReturnsInHanded {} Tryd.checked os 3 .any (fun w args => (Rows.levelEdgesSpec.pre enc Tryd.prog Tryd.f3 [] false w args ∧ laidMetH Tryd.prog Rows.levelEdgesRow.laid w) ∧ sizedMet enc Tryd.prog Tryd.f3 (OpenSpec.ofChange Rows.levelEdgesSpec) false w args)
      (Rows.levelEdgesSpec.post enc Tryd.prog Tryd.f3 false true false false) := by
  refine returnsInHanded_of_change_and (C := Tryd.checked) (X := fun w _ => laidMetH Tryd.prog Rows.levelEdgesRow.laid w) (fun _ _ _ hh h => h.of_heap hh) own started (by kernel_rfl) Tryd.func3
    (ChangeSpec.witness_shaped (enc := enc) (C := Tryd.checked) (os := os) (X := fun w _ => laidMetH Tryd.prog Rows.levelEdgesRow.laid w) false (World.laidAll Tryd.prog os Rows.levelEdgesRow.laid) #[.int .u8 0, .int .u8 0, .int .u8 0] 8 (World.laidAll_os _ _ _)
      (World.shaped_of_ZipB (by kernel_rfl) (by kernel_rfl)) (by kernel_rfl) (by kernel_rfl) (by kernel_rfl)
      (by rw [MakeChecks.laidMetH_plain _ _ _ (by kernel_rfl)]; exact laidMet_laidAll _ (by kernel_rfl) (by kernel_rfl))) ?_
  intro W base args ds gs before hval0 hW _ _ hL _
  have hval : ∀ (j : Nat) t v, Tryd.f3.params[j]? = some t → args[j]? = some v → Value.okWide Tryd.prog W .any base t v := hval0
  have hW' := hW
  obtain ⟨p, q, hA0, hV, rfl, _, _⟩ := hW
  have hA : DataW.TrodAll enc Tryd.prog W 0 (fun _ => true) true Tryd.f3.params.toList args.toList ds p := hA0
  rw [Tryd.params3] at hA hval
  obtain ⟨v0, vs0, d0, ds0, p0, q0, hargs, rfl, rfl, h0, r0⟩ := trodAll_cons hA
  obtain ⟨v1, vs1, d1, ds1, p1, q1, rfl, rfl, rfl, h1, r1⟩ := trodAll_cons r0
  obtain ⟨v2, vs2, d2, ds2, p2, q2, rfl, rfl, rfl, h2, r2⟩ := trodAll_cons r1
  obtain ⟨rfl, rfl, rfl⟩ := trodAll_nil r2
  obtain rfl : args = #[v0, v1, v2] := by cases args; simp_all
  obtain ⟨rfl, rfl⟩ := trodVars_none hV
  have k0 := h0
  have lt0 : ∀ x ∈ p0, x.block < W.heap.size := by obtain ⟨m, hm⟩ := k0; exact DataW.trod_lt m _ _ _ hm
  obtain ⟨n0, e0⟩ := okWide_int Tryd.underlying5 (hval 0 5 v0 rfl rfl)
  obtain ⟨a0, w0, g0⟩ := Eng.arg_cell Eng.copw5 (fun _ => rfl) h0 (by rw [e0]; rfl)
  have b0 : 0 ≤ a0 ∧ a0 < 256 := by
    have := w0
    simp only [Lit.wf, IntKind.min, IntKind.max, IntKind.signed, IntKind.bits] at this
    simp at this
    omega
  have k1 := h1
  have lt1 : ∀ x ∈ p1, x.block < W.heap.size := by obtain ⟨m, hm⟩ := k1; exact DataW.trod_lt m _ _ _ hm
  obtain ⟨n1, e1⟩ := okWide_int Tryd.underlying5 (hval 1 5 v1 rfl rfl)
  obtain ⟨a1, w1, g1⟩ := Eng.arg_cell Eng.copw5 (fun _ => rfl) h1 (by rw [e1]; rfl)
  have b1 : 0 ≤ a1 ∧ a1 < 256 := by
    have := w1
    simp only [Lit.wf, IntKind.min, IntKind.max, IntKind.signed, IntKind.bits] at this
    simp at this
    omega
  have k2 := h2
  have lt2 : ∀ x ∈ p2, x.block < W.heap.size := by obtain ⟨m, hm⟩ := k2; exact DataW.trod_lt m _ _ _ hm
  obtain ⟨n2, e2⟩ := okWide_int Tryd.underlying5 (hval 2 5 v2 rfl rfl)
  obtain ⟨a2, w2, g2⟩ := Eng.arg_cell Eng.copw5 (fun _ => rfl) h2 (by rw [e2]; rfl)
  have b2 : 0 ≤ a2 ∧ a2 < 256 := by
    have := w2
    simp only [Lit.wf, IntKind.min, IntKind.max, IntKind.signed, IntKind.bits] at this
    simp at this
    omega
  refine (Eng.Det.walk (Eng.ok3 a0 a1 a2 b0 b1 b2) (fun _ _ => rfl) (cargs := #[v0, v1, v2]) rfl (fun j h h' => ?_)).mono fun e W' ⟨he, bel⟩ => ?_
  · match j, h with
    | 0, _ => exact g0
    | 1, _ => exact g1
    | 2, _ => exact g2
  · subst he
    exact ⟨_, rfl, _, _, _, [], _, [], hW', trodAll_mk1 (shut_bool Tryd.underlying4 _), (trodAll_cons_mk (Below.trod laidOut (by kernel_rfl) (of_decide_eq_true (by kernel_rfl)) k0 bel lt0) (trodAll_cons_mk (Below.trod laidOut (by kernel_rfl) (of_decide_eq_true (by kernel_rfl)) k1 bel lt1) (trodAll_cons_mk (Below.trod laidOut (by kernel_rfl) (of_decide_eq_true (by kernel_rfl)) k2 bel lt2) trodAll_mk0))), rfl, bel.frame _, fun h => by cases h⟩
theorem holds : Rows.levelEdgesRow.holds Tryd.pinned (OpenSpec.ofChange Rows.levelEdgesSpec) :=
  OpenClaim.holds_of_wide 3 Tryd.f3 rfl rfl rfl rfl rfl rfl rfl ⟨rfl, rfl, rfl, rfl, rfl⟩ rfl rfl rfl rfl rfl (by kernel_rfl) Tryd.func3 closed
    (of_decide_eq_true (by kernel_rfl)) (by unfold Func.isWrapper; first | (rw [if_pos (by decide +kernel)]; kernel_rfl) | (rw [if_neg (by decide +kernel)]; exact ⟨rfl, rfl⟩))
    (fun os started H enc _ => lifted os started H enc)
theorem wfText : Rows.levelEdgesRow.wfByText (OpenSpec.ofChange Rows.levelEdgesSpec) = true := by kernel_rfl
theorem goes : false = Rows.levelEdgesRow.goesBy Tryd.prog := by kernel_rfl
theorem named : Tryd.prog.funcNamed Rows.levelEdgesRow.func = some 3 := by kernel_rfl
theorem wants : ([5, 5, 5].all fun u => !Tryd.prog.wantsStandIn u) = true := by kernel_rfl
theorem card_holds : Rows.LevelEdgesCardSaid :=
  Claim7.holds_tied_plain_at .later [] [.data, .pinned] true (true, "94648d0ca5cc73168defa09b2b4bf26a77f3d18bd1a765416fc304ceca088c47") true holds (fun _ h => by cases h) wfText (fun _ h => by cases h) levelEdges_row_tie rfl ⟨rfl, rfl⟩ Facts.mainIs rfl
    (fun f fn hf hfn => by
      obtain rfl : f = 3 := Option.some.inj (named.symm.trans hf) |>.symm
      obtain rfl : fn = Tryd.f3 := (Option.some.inj (Tryd.func3.symm.trans hfn)).symm
      exact ⟨Facts.looks.symm, fun j t ht => by
        rw [Tryd.params3] at ht
        have hm : t ∈ [5, 5, 5] := by simpa using Array.mem_of_getElem? ht
        exact (show Tryd.prog.wantsStandIn t = false by simpa using List.all_eq_true.1 wants t hm)⟩)
    goes
end Go.Proofs.YtdolhcmhdjmoeaaDoor.levelEdges
namespace Go.Proofs.YtdolhcmhdjmoeaaDoor
/-- The card, under a short name. -/
theorem levelEdges_card : Rows.LevelEdgesCardSaid := levelEdges.card_holds
#print axioms levelEdges_card
end Go.Proofs.YtdolhcmhdjmoeaaDoor
