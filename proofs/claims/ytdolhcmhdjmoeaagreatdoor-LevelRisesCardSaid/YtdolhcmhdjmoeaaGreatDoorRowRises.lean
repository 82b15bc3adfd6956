/- The row and the card of LevelRises. -/
import Derived.Test.YtdolhcmhdjmoeaaGreatDoorCards
import Derived.Test.YtdolhcmhdjmoeaaGreatDoorTie
import Derived.Test.YtdolhcmhdjmoeaaGreatDoorLawRises3
import Derived.Test.YtdolhcmhdjmoeaaGreatDoorEngArgs
import Derived.Test.YtdolhcmhdjmoeaaGreatDoorFacts
import Derived.WalkKit
import Derived.ProofKit
import Derived.OpenShut
import Derived.ShutString
import Derived.ChangeOld
import Derived.Below
import Derived.Carry
import Derived.SizedLaws
import Derived.Lay
import Derived.LaidOnce
import Derived.SevenTiedAt
set_option linter.unusedVariables false
set_option maxRecDepth 100000
namespace Go.Proofs.YtdolhcmhdjmoeaaGreatDoor.levelRises
open Go Go.Proofs Go.ChangeShapes Go.WideShapes Go.ChangeAt Go.RowKit Go.Lib
theorem andI {a b : Bool} (x : a = true) (y : b = true) : (a && b) = true := by rw [x, y]; rfl
theorem k0 : Rows.levelRisesRow.wf (OpenSpec.ofChange Rows.levelRisesSpec) = true := by kernel_rfl
theorem k3 : Tryz.f3.params.all (Tryz.prog.readableRec ·) = true := by kernel_rfl
theorem k4 : namedTie Tryz.prog Rows.levelRisesRow.named Rows.levelRisesSpec.vars = true := by kernel_rfl
theorem k5 : (Rows.levelRisesRow.stops == []) = true := by kernel_rfl
theorem k7 : (Rows.levelRisesRow.knobs == []) = true := by kernel_rfl
theorem k9 : (Rows.levelRisesRow.inPlace == Tryz.prog.inPlace 3) = true := by kernel_rfl
theorem k10 : (Rows.levelRisesRow.unfollowed == Tryz.prog.unfollowed 3) = true := by kernel_rfl
theorem k11 : (Rows.levelRisesRow.recurses == Tryz.prog.recurses 3) = true := by kernel_rfl
theorem k12 : (Rows.levelRisesRow.named == Tryz.prog.varsNamed 3) = true := by kernel_rfl
theorem k13 : (Rows.levelRisesRow.maps == (Tryz.f3.params.toList ++ Rows.levelRisesSpec.plain.varTypes Tryz.prog).any (Tryz.prog.mapsRec ·)) = true := by kernel_rfl
theorem k14 : (Rows.levelRisesRow.ifaces == (Tryz.f3.params.toList ++ Rows.levelRisesSpec.plain.varTypes Tryz.prog).any (Tryz.prog.ifacesRec ·)) = true := by kernel_rfl
theorem k15 : (Rows.levelRisesRow.mapsOut == Tryz.prog.mapsAmong Tryz.f3.resultTypes.toList) = true := by kernel_rfl
theorem k16 : (Rows.levelRisesRow.loops == (Tryz.f3.params.toList ++ Rows.levelRisesSpec.plain.varTypes Tryz.prog).any (Tryz.prog.loopsFrom ·)) = true := by kernel_rfl
theorem k17 : (Rows.levelRisesRow.wideKeys == (Tryz.f3.params.toList ++ Rows.levelRisesSpec.plain.varTypes Tryz.prog ++ Tryz.f3.resultTypes.toList).any (Tryz.prog.wideKeysFrom ·)) = true := by kernel_rfl
theorem k18 : Rows.levelRisesSpec.vars.all (Tryz.prog.varReadable ·) = true := by kernel_rfl
theorem k19 : Tryz.f3.resultTypes.all (fun t => Tryz.prog.readableRec t && decide (t < Tryz.prog.types.size)) = true := by kernel_rfl
theorem k20 : (Rows.levelRisesRow.ifacesOut == Tryz.f3.resultTypes.toList.any (Tryz.prog.ifacesRec ·)) = true := by kernel_rfl
theorem k21 : (Rows.levelRisesRow.loopsOut == Tryz.f3.resultTypes.toList.any (Tryz.prog.loopsFrom ·)) = true := by kernel_rfl
theorem k22 : (Rows.levelRisesRow.plainKeys == Tryz.prog.plainKeys) = true := by rw [Facts.plainKeys]; kernel_rfl
theorem k23 : Rows.levelRisesRow.shortTexts.isNone = true := by kernel_rfl
theorem k26 : (Rows.levelRisesRow.lifted == Tryz.prog.liftsFinal) = true := by rw [Facts.liftsFinal]; kernel_rfl
theorem k27 : (Tryz.prog.make == some Rows.levelRisesRow.make) = true := by rw [Facts.make]; kernel_rfl
theorem k28 : (Rows.levelRisesRow.kinds == (if Rows.levelRisesRow.domain.isEmpty then [] else Tryz.f3.params.toList.map fun t => match Tryz.prog.underlying t with | some (.int k) => some k | _ => none)) = true := by kernel_rfl
theorem k29 : (Rows.levelRisesRow.pinned == Rows.levelRisesRow.pinnedBy) = true := by kernel_rfl
theorem k30 : (Rows.levelRisesRow.veiled == (Tryz.f3.params.toList ++ Rows.levelRisesSpec.plain.varTypes Tryz.prog ++ Tryz.f3.resultTypes.toList).any (Tryz.prog.veiledRec ·)) = true := by kernel_rfl
theorem k31 : Rows.levelRisesRow.veiledFits Tryz.prog Tryz.f3.params.toList (Tryz.f3.params.toList ++ Rows.levelRisesSpec.plain.varTypes Tryz.prog ++ Tryz.f3.resultTypes.toList) = true := by kernel_rfl
theorem closed : joinedFacts Tryz.prog 3 Tryz.f3 Rows.levelRisesSpec Rows.levelRisesRow = true := andI (andI (andI (andI (andI (andI (andI (andI (andI (andI (andI (andI (andI (andI (andI (andI (andI (andI (andI (andI (andI (andI (andI (andI (andI (andI (andI (andI (andI (andI (andI k0 Facts.laidOut) Facts.mapsRowed) k3) k4) k5) Facts.stops) k7) Facts.stopKnobs) k9) k10) k11) k12) k13) k14) k15) k16) k17) k18) k19) k20) k21) k22) k23) Facts.stopsHeard) Facts.mayEnter) k26) k27) k28) k29) k30) k31
theorem own : ownKnob Tryz.prog.godebug = none := by kernel_rfl
theorem laidOut : laidOutB Tryz.prog = true := Facts.laidOut
theorem lifted (os : Os) (started : os.Started) (H : Type) (enc : TypeId × Value → H) :
    ReturnsInHanded {} Tryz.checked os 3 .any (fun w args => (Rows.levelRisesSpec.pre enc Tryz.prog Tryz.f3 [] false w args ∧ laidMetH Tryz.prog Rows.levelRisesRow.laid w) ∧ sizedMet enc Tryz.prog Tryz.f3 (OpenSpec.ofChange Rows.levelRisesSpec) false w args)
      (Rows.levelRisesSpec.post enc Tryz.prog Tryz.f3 false true false false) := by
  refine returnsInHanded_of_change_and (C := Tryz.checked) (X := fun w _ => laidMetH Tryz.prog Rows.levelRisesRow.laid w) (fun _ _ _ hh h => h.of_heap hh) own started (by kernel_rfl) Tryz.func3
    (ChangeSpec.witness_shaped (enc := enc) (C := Tryz.checked) (os := os) (X := fun w _ => laidMetH Tryz.prog Rows.levelRisesRow.laid w) false (World.laidAll Tryz.prog os Rows.levelRisesRow.laid) #[.agg #[.slice none 0 0, .slice none 0 0, .slice none 0 0], .float .f64 0, .float .f64 0, .float .f64 0, .float .f64 0] 8 (World.laidAll_os _ _ _)
      (World.shaped_of_ZipB (by kernel_rfl) (by kernel_rfl)) (by kernel_rfl) (by kernel_rfl) (by kernel_rfl)
      (by rw [MakeChecks.laidMetH_plain _ _ _ (by kernel_rfl)]; exact laidMet_laidAll _ (by kernel_rfl) (by kernel_rfl))) ?_
  intro W base args ds gs before hval0 hW _ _ hL _
  have hval : ∀ (j : Nat) t v, Tryz.f3.params[j]? = some t → args[j]? = some v → Value.okWide Tryz.prog W .any base t v := hval0
  have hW' := hW
  obtain ⟨p, q, hA0, hV, rfl, _, _⟩ := hW
  have hA : DataW.TrodAll enc Tryz.prog W 0 (fun _ => true) true Tryz.f3.params.toList args.toList ds p := hA0
  rw [Tryz.params3] at hA hval
  obtain ⟨v0, vs0, d0, ds0, p0, q0, hargs, rfl, rfl, h0, r0⟩ := trodAll_cons hA
  obtain ⟨v1, vs1, d1, ds1, p1, q1, rfl, rfl, rfl, h1, r1⟩ := trodAll_cons r0
  obtain ⟨v2, vs2, d2, ds2, p2, q2, rfl, rfl, rfl, h2, r2⟩ := trodAll_cons r1
  obtain ⟨v3, vs3, d3, ds3, p3, q3, rfl, rfl, rfl, h3, r3⟩ := trodAll_cons r2
  obtain ⟨v4, vs4, d4, ds4, p4, q4, rfl, rfl, rfl, h4, r4⟩ := trodAll_cons r3
  obtain ⟨rfl, rfl, rfl⟩ := trodAll_nil r4
  obtain rfl : args = #[v0, v1, v2, v3, v4] := by cases args; simp_all
  obtain ⟨rfl, rfl⟩ := trodVars_none hV
  have k0 := h0
  have lt0 : ∀ x ∈ p0, x.block < W.heap.size := by obtain ⟨m, hm⟩ := k0; exact DataW.trod_lt m _ _ _ hm
  obtain ⟨c0, e0, _⟩ := okWide_struct Tryz.underlying26 (hval 0 26 v0 rfl rfl)
  obtain ⟨a0, _, g0⟩ := Eng.arg_agg Eng.cop26 (fun _ => rfl) h0 e0
  have k1 := h1
  have lt1 : ∀ x ∈ p1, x.block < W.heap.size := by obtain ⟨m, hm⟩ := k1; exact DataW.trod_lt m _ _ _ hm
  obtain ⟨n1, e1⟩ := Eng.okWide_float Tryz.underlying27 (hval 1 27 v1 rfl rfl)
  obtain ⟨a1, _, g1⟩ := Eng.arg_cell Eng.cop27 (fun _ => rfl) h1 (by rw [e1]; rfl)
  have k2 := h2
  have lt2 : ∀ x ∈ p2, x.block < W.heap.size := by obtain ⟨m, hm⟩ := k2; exact DataW.trod_lt m _ _ _ hm
  obtain ⟨n2, e2⟩ := Eng.okWide_float Tryz.underlying27 (hval 2 27 v2 rfl rfl)
  obtain ⟨a2, _, g2⟩ := Eng.arg_cell Eng.cop27 (fun _ => rfl) h2 (by rw [e2]; rfl)
  have k3 := h3
  have lt3 : ∀ x ∈ p3, x.block < W.heap.size := by obtain ⟨m, hm⟩ := k3; exact DataW.trod_lt m _ _ _ hm
  obtain ⟨n3, e3⟩ := Eng.okWide_float Tryz.underlying27 (hval 3 27 v3 rfl rfl)
  obtain ⟨a3, _, g3⟩ := Eng.arg_cell Eng.cop27 (fun _ => rfl) h3 (by rw [e3]; rfl)
  have k4 := h4
  have lt4 : ∀ x ∈ p4, x.block < W.heap.size := by obtain ⟨m, hm⟩ := k4; exact DataW.trod_lt m _ _ _ hm
  obtain ⟨n4, e4⟩ := Eng.okWide_float Tryz.underlying27 (hval 4 27 v4 rfl rfl)
  obtain ⟨a4, _, g4⟩ := Eng.arg_cell Eng.cop27 (fun _ => rfl) h4 (by rw [e4]; rfl)
  refine (Eng.Det.walk (Eng.ok3 a0 a1 a2 a3 a4) (fun _ _ => rfl) (cargs := #[v0, v1, v2, v3, v4]) rfl (fun j h h' => ?_)).mono fun e W' ⟨he, bel⟩ => ?_
  · match j, h with
    | 0, _ => exact g0
    | 1, _ => exact g1
    | 2, _ => exact g2
    | 3, _ => exact g3
    | 4, _ => exact g4
  · subst he
    exact ⟨_, rfl, _, _, _, [], _, [], hW', trodAll_mk1 (shut_bool Tryz.underlying4 _), (trodAll_cons_mk (Below.trod laidOut (by kernel_rfl) (of_decide_eq_true (by kernel_rfl)) k0 bel lt0) (trodAll_cons_mk (Below.trod laidOut (by kernel_rfl) (of_decide_eq_true (by kernel_rfl)) k1 bel lt1) (trodAll_cons_mk (Below.trod laidOut (by kernel_rfl) (of_decide_eq_true (by kernel_rfl)) k2 bel lt2) (trodAll_cons_mk (Below.trod laidOut (by kernel_rfl) (of_decide_eq_true (by kernel_rfl)) k3 bel lt3) (trodAll_cons_mk (Below.trod laidOut (by kernel_rfl) (of_decide_eq_true (by kernel_rfl)) k4 bel lt4) trodAll_mk0))))), rfl, bel.frame _, fun h => by cases h⟩
theorem holds : Rows.levelRisesRow.holds Tryz.pinned (OpenSpec.ofChange Rows.levelRisesSpec) :=
  OpenClaim.holds_of_wide 3 Tryz.f3 rfl rfl rfl rfl rfl rfl rfl ⟨rfl, rfl, rfl, rfl, rfl⟩ rfl rfl rfl rfl rfl (by kernel_rfl) Tryz.func3 closed
    (of_decide_eq_true (by kernel_rfl)) (by unfold Func.isWrapper; first | (rw [if_pos (by decide +kernel)]; kernel_rfl) | (rw [if_neg (by decide +kernel)]; exact ⟨rfl, rfl⟩))
    (fun os started H enc _ => lifted os started H enc)
theorem wfText : Rows.levelRisesRow.wfByText (OpenSpec.ofChange Rows.levelRisesSpec) = true := by kernel_rfl
theorem goes : false = Rows.levelRisesRow.goesBy Tryz.prog := by kernel_rfl
theorem named : Tryz.prog.funcNamed Rows.levelRisesRow.func = some 3 := by kernel_rfl
theorem wants : ([26, 27, 27, 27, 27].all fun u => !Tryz.prog.wantsStandIn u) = true := by kernel_rfl
theorem card_holds : Rows.LevelRisesCardSaid :=
  Claim7.holds_tied_plain_at .later [] [.data, .pinned] true (true, "d56a8cb66f761728c3307fef9529ecefb26b10344749f6e480f6c8fab6c6bea7") true holds (fun _ h => by cases h) wfText (fun _ h => by cases h) levelRises_row_tie rfl ⟨rfl, rfl⟩ Facts.mainIs rfl
    (fun f fn hf hfn => by
      obtain rfl : f = 3 := Option.some.inj (named.symm.trans hf) |>.symm
      obtain rfl : fn = Tryz.f3 := (Option.some.inj (Tryz.func3.symm.trans hfn)).symm
      exact ⟨Facts.looks.symm, fun j t ht => by
        rw [Tryz.params3] at ht
        have hm : t ∈ [26, 27, 27, 27, 27] := by simpa using Array.mem_of_getElem? ht
        exact (show Tryz.prog.wantsStandIn t = false by simpa using List.all_eq_true.1 wants t hm)⟩)
    goes
end Go.Proofs.YtdolhcmhdjmoeaaGreatDoor.levelRises
namespace Go.Proofs.YtdolhcmhdjmoeaaGreatDoor
/-- The card, under a short name. -/
theorem levelRises_card : Rows.LevelRisesCardSaid := levelRises.card_holds
#print axioms levelRises_card
end Go.Proofs.YtdolhcmhdjmoeaaGreatDoor
