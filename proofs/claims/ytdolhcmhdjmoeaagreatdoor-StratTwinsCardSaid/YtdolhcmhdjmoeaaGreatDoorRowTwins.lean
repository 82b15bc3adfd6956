/- The row and the card of StratTwins. -/
import Derived.Test.YtdolhcmhdjmoeaaGreatDoorCards
import Derived.Test.YtdolhcmhdjmoeaaGreatDoorTie
import Derived.Test.YtdolhcmhdjmoeaaGreatDoorLawTwins5
import Derived.Test.YtdolhcmhdjmoeaaGreatDoorEngArgs
import Derived.Test.YtdolhcmhdjmoeaaGreatDoorFacts
import Derived.WalkKit
import Derived.ProofKit
import Derived.OpenShut
import Derived.ShutString
import Derived.ChangeOld
import Derived.Below
import Derived.Carry
import Derived.SizedLaws
import Derived.Lay
import Derived.LaidOnce
import Derived.SevenTiedAt
set_option linter.unusedVariables false
set_option maxRecDepth 100000
namespace Go.Proofs.YtdolhcmhdjmoeaaGreatDoor.stratTwins
open Go Go.Proofs Go.ChangeShapes Go.WideShapes Go.ChangeAt Go.RowKit Go.Lib
theorem andI {a b : Bool} (x : a = true) (y : b = true) : (a && b) = true := by rw [x, y]; rfl
theorem k0 : Rows.stratTwinsRow.wf (OpenSpec.ofChange Rows.stratTwinsSpec) = true := by kernel_rfl
theorem k3 : Tryz.f11.params.all (Tryz.prog.readableRec ·) = true := by kernel_rfl
theorem k4 : namedTie Tryz.prog Rows.stratTwinsRow.named Rows.stratTwinsSpec.vars = true := by kernel_rfl
theorem k5 : (Rows.stratTwinsRow.stops == []) = true := by kernel_rfl
theorem k7 : (Rows.stratTwinsRow.knobs == []) = true := by kernel_rfl
theorem k9 : (Rows.stratTwinsRow.inPlace == Tryz.prog.inPlace 11) = true := by kernel_rfl
theorem k10 : (Rows.stratTwinsRow.unfollowed == Tryz.prog.unfollowed 11) = true := by kernel_rfl
theorem k11 : (Rows.stratTwinsRow.recurses == Tryz.prog.recurses 11) = true := by kernel_rfl
theorem k12 : (Rows.stratTwinsRow.named == Tryz.prog.varsNamed 11) = true := by kernel_rfl
theorem k13 : (Rows.stratTwinsRow.maps == (Tryz.f11.params.toList ++ Rows.stratTwinsSpec.plain.varTypes Tryz.prog).any (Tryz.prog.mapsRec ·)) = true := by kernel_rfl
theorem k14 : (Rows.stratTwinsRow.ifaces == (Tryz.f11.params.toList ++ Rows.stratTwinsSpec.plain.varTypes Tryz.prog).any (Tryz.prog.ifacesRec ·)) = true := by kernel_rfl
theorem k15 : (Rows.stratTwinsRow.mapsOut == Tryz.prog.mapsAmong Tryz.f11.resultTypes.toList) = true := by kernel_rfl
theorem k16 : (Rows.stratTwinsRow.loops == (Tryz.f11.params.toList ++ Rows.stratTwinsSpec.plain.varTypes Tryz.prog).any (Tryz.prog.loopsFrom ·)) = true := by kernel_rfl
theorem k17 : (Rows.stratTwinsRow.wideKeys == (Tryz.f11.params.toList ++ Rows.stratTwinsSpec.plain.varTypes Tryz.prog ++ Tryz.f11.resultTypes.toList).any (Tryz.prog.wideKeysFrom ·)) = true := by kernel_rfl
theorem k18 : Rows.stratTwinsSpec.vars.all (Tryz.prog.varReadable ·) = true := by kernel_rfl
theorem k19 : Tryz.f11.resultTypes.all (fun t => Tryz.prog.readableRec t && decide (t < Tryz.prog.types.size)) = true := by kernel_rfl
theorem k20 : (Rows.stratTwinsRow.ifacesOut == Tryz.f11.resultTypes.toList.any (Tryz.prog.ifacesRec ·)) = true := by kernel_rfl
theorem k21 : (Rows.stratTwinsRow.loopsOut == Tryz.f11.resultTypes.toList.any (Tryz.prog.loopsFrom ·)) = true := by kernel_rfl
theorem k22 : (Rows.stratTwinsRow.plainKeys == Tryz.prog.plainKeys) = true := by rw [Facts.plainKeys]; kernel_rfl
theorem k23 : Rows.stratTwinsRow.shortTexts.isNone = true := by kernel_rfl
theorem k26 : (Rows.stratTwinsRow.lifted == Tryz.prog.liftsFinal) = true := by rw [Facts.liftsFinal]; kernel_rfl
theorem k27 : (Tryz.prog.make == some Rows.stratTwinsRow.make) = true := by rw [Facts.make]; kernel_rfl
theorem k28 : (Rows.stratTwinsRow.kinds == (if Rows.stratTwinsRow.domain.isEmpty then [] else Tryz.f11.params.toList.map fun t => match Tryz.prog.underlying t with | some (.int k) => some k | _ => none)) = true := by kernel_rfl
theorem k29 : (Rows.stratTwinsRow.pinned == Rows.stratTwinsRow.pinnedBy) = true := by kernel_rfl
theorem k30 : (Rows.stratTwinsRow.veiled == (Tryz.f11.params.toList ++ Rows.stratTwinsSpec.plain.varTypes Tryz.prog ++ Tryz.f11.resultTypes.toList).any (Tryz.prog.veiledRec ·)) = true := by kernel_rfl
theorem k31 : Rows.stratTwinsRow.veiledFits Tryz.prog Tryz.f11.params.toList (Tryz.f11.params.toList ++ Rows.stratTwinsSpec.plain.varTypes Tryz.prog ++ Tryz.f11.resultTypes.toList) = true := by kernel_rfl
theorem closed : joinedFacts Tryz.prog 11 Tryz.f11 Rows.stratTwinsSpec Rows.stratTwinsRow = true := andI (andI (andI (andI (andI (andI (andI (andI (andI (andI (andI (andI (andI (andI (andI (andI (andI (andI (andI (andI (andI (andI (andI (andI (andI (andI (andI (andI (andI (andI (andI k0 Facts.laidOut) Facts.mapsRowed) k3) k4) k5) Facts.stops) k7) Facts.stopKnobs) k9) k10) k11) k12) k13) k14) k15) k16) k17) k18) k19) k20) k21) k22) k23) Facts.stopsHeard) Facts.mayEnter) k26) k27) k28) k29) k30) k31
theorem own : ownKnob Tryz.prog.godebug = none := by kernel_rfl
theorem laidOut : laidOutB Tryz.prog = true := Facts.laidOut
theorem lifted (os : Os) (started : os.Started) (H : Type) (enc : TypeId × Value → H) :
    ReturnsInHanded {} Tryz.checked os 11 .any (fun w args => (Rows.stratTwinsSpec.pre enc Tryz.prog Tryz.f11 [] false w args ∧ laidMetH Tryz.prog Rows.stratTwinsRow.laid w) ∧ sizedMet enc Tryz.prog Tryz.f11 (OpenSpec.ofChange Rows.stratTwinsSpec) false w args)
      (Rows.stratTwinsSpec.post enc Tryz.prog Tryz.f11 false true false false) := by
  refine returnsInHanded_of_change_and (C := Tryz.checked) (X := fun w _ => laidMetH Tryz.prog Rows.stratTwinsRow.laid w) (fun _ _ _ hh h => h.of_heap hh) own started (by kernel_rfl) Tryz.func11
    (ChangeSpec.witness_shaped (enc := enc) (C := Tryz.checked) (os := os) (X := fun w _ => laidMetH Tryz.prog Rows.stratTwinsRow.laid w) false (World.laidAll Tryz.prog os Rows.stratTwinsRow.laid) #[.agg #[.slice none 0 0, .slice none 0 0, .slice none 0 0]] 8 (World.laidAll_os _ _ _)
      (World.shaped_of_ZipB (by kernel_rfl) (by kernel_rfl)) (by kernel_rfl) (by kernel_rfl) (by kernel_rfl)
      (by rw [MakeChecks.laidMetH_plain _ _ _ (by kernel_rfl)]; exact laidMet_laidAll _ (by kernel_rfl) (by kernel_rfl))) ?_
  intro W base args ds gs before hval0 hW _ _ hL _
  have hval : ∀ (j : Nat) t v, Tryz.f11.params[j]? = some t → args[j]? = some v → Value.okWide Tryz.prog W .any base t v := hval0
  have hW' := hW
  obtain ⟨p, q, hA0, hV, rfl, _, _⟩ := hW
  have hA : DataW.TrodAll enc Tryz.prog W 0 (fun _ => true) true Tryz.f11.params.toList args.toList ds p := hA0
  rw [Tryz.params11] at hA hval
  obtain ⟨v0, vs0, d0, ds0, p0, q0, hargs, rfl, rfl, h0, r0⟩ := trodAll_cons hA
  obtain ⟨rfl, rfl, rfl⟩ := trodAll_nil r0
  obtain rfl : args = #[v0] := by cases args; simp_all
  obtain ⟨rfl, rfl⟩ := trodVars_none hV
  have k0 := h0
  have lt0 : ∀ x ∈ p0, x.block < W.heap.size := by obtain ⟨m, hm⟩ := k0; exact DataW.trod_lt m _ _ _ hm
  obtain ⟨c0, e0, _⟩ := okWide_struct Tryz.underlying26 (hval 0 26 v0 rfl rfl)
  obtain ⟨a0, _, g0⟩ := Eng.arg_agg Eng.cop26 (fun _ => rfl) h0 e0
  refine (Eng.Det.walk (Eng.ok11 a0) (fun _ _ => rfl) (cargs := #[v0]) rfl (fun j h h' => ?_)).mono fun e W' ⟨he, bel⟩ => ?_
  · match j, h with
    | 0, _ => exact g0
  · subst he
    exact ⟨_, rfl, _, _, _, [], _, [], hW', trodAll_mk1 (shut_bool Tryz.underlying4 _), (trodAll_cons_mk (Below.trod laidOut (by kernel_rfl) (of_decide_eq_true (by kernel_rfl)) k0 bel lt0) trodAll_mk0), rfl, bel.frame _, fun h => by cases h⟩
theorem holds : Rows.stratTwinsRow.holds Tryz.pinned (OpenSpec.ofChange Rows.stratTwinsSpec) :=
  OpenClaim.holds_of_wide 11 Tryz.f11 rfl rfl rfl rfl rfl rfl rfl ⟨rfl, rfl, rfl, rfl, rfl⟩ rfl rfl rfl rfl rfl (by kernel_rfl) Tryz.func11 closed
    (of_decide_eq_true (by kernel_rfl)) (by unfold Func.isWrapper; first | (rw [if_pos (by decide +kernel)]; kernel_rfl) | (rw [if_neg (by decide +kernel)]; exact ⟨rfl, rfl⟩))
    (fun os started H enc _ => lifted os started H enc)
theorem wfText : Rows.stratTwinsRow.wfByText (OpenSpec.ofChange Rows.stratTwinsSpec) = true := by kernel_rfl
theorem goes : false = Rows.stratTwinsRow.goesBy Tryz.prog := by kernel_rfl
theorem named : Tryz.prog.funcNamed Rows.stratTwinsRow.func = some 11 := by kernel_rfl
theorem wants : ([26].all fun u => !Tryz.prog.wantsStandIn u) = true := by kernel_rfl
theorem card_holds : Rows.StratTwinsCardSaid :=
  Claim7.holds_tied_plain_at .later [] [.data, .pinned] true (true, "d56a8cb66f761728c3307fef9529ecefb26b10344749f6e480f6c8fab6c6bea7") true holds (fun _ h => by cases h) wfText (fun _ h => by cases h) stratTwins_row_tie rfl ⟨rfl, rfl⟩ Facts.mainIs rfl
    (fun f fn hf hfn => by
      obtain rfl : f = 11 := Option.some.inj (named.symm.trans hf) |>.symm
      obtain rfl : fn = Tryz.f11 := (Option.some.inj (Tryz.func11.symm.trans hfn)).symm
      exact ⟨Facts.looks.symm, fun j t ht => by
        rw [Tryz.params11] at ht
        have hm : t ∈ [26] := by simpa using Array.mem_of_getElem? ht
        exact (show Tryz.prog.wantsStandIn t = false by simpa using List.all_eq_true.1 wants t hm)⟩)
    goes
end Go.Proofs.YtdolhcmhdjmoeaaGreatDoor.stratTwins
namespace Go.Proofs.YtdolhcmhdjmoeaaGreatDoor
/-- The card, under a short name. -/
theorem stratTwins_card : Rows.StratTwinsCardSaid := stratTwins.card_holds
#print axioms stratTwins_card
end Go.Proofs.YtdolhcmhdjmoeaaGreatDoor
