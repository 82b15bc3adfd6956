/- Printed walks and contracts. -/
import Derived.Test.YtdolhcmhdjmoeaaDoorEddX0
set_option linter.unusedSimpArgs false
set_option linter.unusedVariables false
set_option maxRecDepth 100000
namespace Go.Proofs.Eng
open Go Go.Proofs Go.Sort
-- res.Add$1
def F47 (a0 : Str) (a1 : (List Amount)) (a2 : (List Amount)) : Option (Int × Int) :=
  (F33 a1 a0).bind fun x4_2 => (F33 a2 a0).bind fun x4_5 => (F48 x4_2 x4_5).bind fun x4_6 => some (x4_6.1, x4_6.2)
/-- ballast/res.Add$1 -/
theorem c47 (a0 : Str) (a1 : (List Amount)) (a2 : (List Amount)) (r : (Int × Int)) (h : F47 a0 a1 a2 = some r) :
    Det Tryd.prog 47 [AV.str a0, .inp [AV.lst 2 Amount.av a1], .inp [AV.lst 2 Amount.av a2]] (.ret (.tuple [AV.int r.1, AV.int r.2])) := by
  refine Det.of_le ?_
  refine @calls_of_body Tryd.prog 47 Tryd.f47 _ Tryd.func47 rfl (by kernel_rfl) [.tmp 4, .tmp 5] (by rw [Tryd.results47]) 15 Tryd.ntmps47 _ _ _ (by simp only [List.length_cons, List.length_nil]; decide) ?_
  unfold F47 at h
  refine awp_seq fun N1 hN1 => ?_
  refine awp_reg kpNone [] [] [0, 1, 2] (cs := []) (st' := ⟨15, [(0, AV.str a0), (1, .inp [AV.lst 2 Amount.av a1]), (2, .inp [AV.lst 2 Amount.av a2])], [], [], []⟩) (by kernel_rfl) trivial ?_
  refine hN1 _ ?_
  refine awp_seq fun N3 hN3 => ?_
  obtain ⟨x4_2, hx4_2, h⟩ := Option.bind_eq_some_iff.1 h
  obtain ⟨x4_5, hx4_5, h⟩ := Option.bind_eq_some_iff.1 h
  obtain ⟨x4_6, hx4_6, h⟩ := Option.bind_eq_some_iff.1 h
  refine awp_regD mixedTryd kpNone [(2, AV.int x4_2), (5, AV.int x4_5), (6, .tuple [AV.int x4_6.1, AV.int x4_6.2])] [] [4, 5] (by kernel_rfl) (cs := [(Det Tryd.prog 33 [AV.lst 2 Amount.av a1, AV.str a0] (.ret (AV.int x4_2))), (Det Tryd.prog 33 [AV.lst 2 Amount.av a2, AV.str a0] (.ret (AV.int x4_5))), (Det Tryd.prog 48 [AV.int x4_2, AV.int x4_5] (.ret (.tuple [AV.int x4_6.1, AV.int x4_6.2])))]) (st' := ⟨15, [(4, AV.int x4_6.1), (5, AV.int x4_6.2)], [], [], []⟩) (by kernel_rfl) ⟨c33 a1 a0 _ hx4_2, c33 a2 a0 _ hx4_5, c48 x4_2 x4_5 _ hx4_6, trivial⟩ ?_
  refine hN3 _ ?_
  have h := Option.some.inj h
  subst h
  exact awp_ret ⟨[AV.int x4_6.1, AV.int x4_6.2], by kernel_rfl, Lw.refl _⟩


-- strings.Trim

-- alone
-- {"kind": "opt", "S": "trimO", "thm": "d57"}
def lay160_ren : Go.Shelf.Ren := ⟨fun | 119 => 93 | 120 => 90 | 137 => 92 | 151 => 80 | 152 => 89 | 160 => 57 | 197 => 79 | 217 => 96 | 224 => 94 | 225 => 95 | 227 => 62 | 228 => 78 | 231 => 60 | 232 => 61 | 233 => 63 | 234 => 64 | 235 => 65 | 236 => 66 | 260 => 88 | 266 => 97 | 271 => 81 | n => n, fun | 0 => 0 | 3 => 3 | 4 => 4 | 5 => 5 | 9 => 9 | 21 => 21 | 46 => 104 | 105 => 125 | 116 => 107 | 117 => 108 | 119 => 138 | 124 => 111 | 138 => 140 | 139 => 141 | n => n, fun | 3 => 1 | 4 => 2 | n => n⟩
theorem lay160 : Lays.n160 Tryd.prog lay160_ren := {
  mixed := by kernel_rfl,
  f119 := Tryd.func93.trans (congrArg some (by kernel_rfl)),
  f120 := Tryd.func90.trans (congrArg some (by kernel_rfl)),
  f137 := Tryd.func92.trans (congrArg some (by kernel_rfl)),
  f151 := Tryd.func80.trans (congrArg some (by kernel_rfl)),
  f152 := Tryd.func89.trans (congrArg some (by kernel_rfl)),
  f160 := Tryd.func57.trans (congrArg some (by kernel_rfl)),
  f197 := Tryd.func79.trans (congrArg some (by kernel_rfl)),
  f217 := Tryd.func96.trans (congrArg some (by kernel_rfl)),
  f224 := Tryd.func94.trans (congrArg some (by kernel_rfl)),
  f225 := Tryd.func95.trans (congrArg some (by kernel_rfl)),
  f227 := Tryd.func62.trans (congrArg some (by kernel_rfl)),
  f228 := Tryd.func78.trans (congrArg some (by kernel_rfl)),
  f231 := Tryd.func60.trans (congrArg some (by kernel_rfl)),
  f232 := Tryd.func61.trans (congrArg some (by kernel_rfl)),
  f233 := Tryd.func63.trans (congrArg some (by kernel_rfl)),
  f234 := Tryd.func64.trans (congrArg some (by kernel_rfl)),
  f235 := Tryd.func65.trans (congrArg some (by kernel_rfl)),
  f236 := Tryd.func66.trans (congrArg some (by kernel_rfl)),
  f260 := Tryd.func88.trans (congrArg some (by kernel_rfl)),
  f266 := Tryd.func97.trans (congrArg some (by kernel_rfl)),
  f271 := Tryd.func81.trans (congrArg some (by kernel_rfl)),
  t0 := Tryd.underlying0,
  a0 := Tryd.isAgg0,
  z0 := Tryd.sizeOf0,
  v0 := Tryd.zeroValue0,
  t3 := Tryd.underlying3,
  a3 := Tryd.isAgg3,
  z3 := Tryd.sizeOf3,
  v3 := Tryd.zeroValue3,
  t4 := Tryd.underlying4,
  a4 := Tryd.isAgg4,
  z4 := Tryd.sizeOf4,
  v4 := Tryd.zeroValue4,
  t5 := Tryd.underlying5,
  a5 := Tryd.isAgg5,
  z5 := Tryd.sizeOf5,
  v5 := Tryd.zeroValue5,
  t9 := Tryd.underlying9,
  a9 := Tryd.isAgg9,
  z9 := Tryd.sizeOf9,
  v9 := Tryd.zeroValue9,
  t21 := Tryd.underlying21,
  a21 := Tryd.isAgg21,
  z21 := Tryd.sizeOf21,
  v21 := Tryd.zeroValue21,
  t46 := Tryd.underlying104,
  a46 := Tryd.isAgg104,
  z46 := Tryd.sizeOf104,
  v46 := Tryd.zeroValue104,
  t105 := Tryd.underlying125,
  a105 := Tryd.isAgg125,
  z105 := Tryd.sizeOf125,
  v105 := Tryd.zeroValue125,
  t116 := Tryd.underlying107,
  a116 := Tryd.isAgg107,
  z116 := Tryd.sizeOf107,
  t117 := Tryd.underlying108,
  a117 := Tryd.isAgg108,
  z117 := Tryd.sizeOf108,
  v117 := Tryd.zeroValue108,
  t119 := Tryd.underlying138,
  a119 := Tryd.isAgg138,
  z119 := Tryd.sizeOf138,
  t124 := Tryd.underlying111,
  a124 := Tryd.isAgg111,
  z124 := Tryd.sizeOf111,
  v124 := Tryd.zeroValue111,
  t138 := Tryd.underlying140,
  a138 := Tryd.isAgg140,
  z138 := Tryd.sizeOf140,
  v138 := Tryd.zeroValue140,
  t139 := Tryd.underlying141,
  a139 := Tryd.isAgg141,
  z139 := Tryd.sizeOf141,
  v139 := Tryd.zeroValue141,
  g3 := by kernel_rfl,
  g4 := by kernel_rfl }

theorem d57 (a0 a1 : Str) (r : Str) (h : trimO a0 a1 = some r) : Det Tryd.prog 57 [AV.str a0, AV.str a1] (.ret (AV.str r)) := by
  unfold trimO at h
  split at h
  · rename_i hp
    cases h
    refine Det.of_below (fun args w => by simp [callFunc, Tryd.func57, Tryd.f57]) ?_
    intro g w cargs h2 h3
    obtain ⟨x, y, rfl, hx, hy⟩ := two_args h2 h3
    obtain ⟨rfl, _⟩ := hx.plain_of
    obtain ⟨rfl, _⟩ := hy.plain_of
    refine (Any.strings_Trim_laid lay160 (by kernel_rfl) ⟨a0.toArray⟩ ⟨a1.toArray⟩ w (by rw [size_data]; simpa using hp.1) (by rw [size_data]; simpa using hp.2.1) (ascii_of_all (by simpa using hp.2.2))).mono ?_
    rintro e w' ⟨rfl, hb⟩
    exact ⟨_, rfl, fun D => .val _ rfl, hb⟩
  · cases h


-- res.Name
def F54.j7  : (Bool) → Option Bool := fun p7 =>
  some p7
def F54 (a0 : Str) : Option Bool :=
  if decide ((1 : Int) ≤ (List.length a0 : Int)) = true then (if decide ((List.length a0 : Int) ≤ (12 : Int)) = true then ((trimO a0 [97, 98, 99, 100, 101, 102, 103, 104, 105, 106, 107, 108, 109, 110, 111, 112, 113, 114, 115, 116, 117, 118, 119, 120, 121, 122, 48, 49, 50, 51, 52, 53, 54, 55, 56, 57]).bind fun x4_10 => F54.j7 (decide (x4_10 = []))) else (F54.j7 false)) else (F54.j7 false)
/-- ballast/res.Name -/
theorem c54 (a0 : Str) (r : Bool) (h : F54 a0 = some r) :
    Det Tryd.prog 54 [AV.str a0] (.ret (AV.bool r)) := by
  refine Det.of_le ?_
  refine @calls_of_body Tryd.prog 54 Tryd.f54 _ Tryd.func54 rfl (by kernel_rfl) [.tmp 2] (by rw [Tryd.results54]) 16 Tryd.ntmps54 _ _ _ (by simp only [List.length_cons, List.length_nil]; decide) ?_
  unfold F54 at h
  refine awp_seq fun N1 hN1 => ?_
  refine awp_reg kpNone [] [] [0] (cs := []) (st' := ⟨16, [(0, AV.str a0)], [], [], []⟩) (by kernel_rfl) trivial ?_
  refine hN1 _ ?_
  refine awp_seq fun N3 hN3 => ?_
  refine awp_to (σ := Bool) (fun p7 => ⟨16, [(2, AV.bool p7)], [], [], []⟩) (fun p7 => F54.j7 p7 = some r) (fun p7 h => ?_) (fun N7 hJ7 => ?_)
  · unfold F54.j7 at h
    refine hN3 _ ?_
    have h := Option.some.inj h
    subst h
    exact awp_ret ⟨[AV.bool p7], by kernel_rfl, Lw.refl _⟩
  · by_cases hg5 : decide ((1 : Int) ≤ (List.length a0 : Int)) = true
    · rw [if_pos hg5] at h
      by_cases hg6 : decide ((List.length a0 : Int) ≤ (12 : Int)) = true
      · rw [if_pos hg6] at h
        obtain ⟨x4_10, hx4_10, h⟩ := Option.bind_eq_some_iff.1 h
        refine awp_reg kpNone [(10, AV.str x4_10)] [(3, true), (8, true)] [2] (cs := [(decide ((1 : Int) ≤ (List.length a0 : Int)) = true), (decide ((List.length a0 : Int) ≤ (12 : Int)) = true), (Det Tryd.prog 57 [AV.str a0, AV.str [97, 98, 99, 100, 101, 102, 103, 104, 105, 106, 107, 108, 109, 110, 111, 112, 113, 114, 115, 116, 117, 118, 119, 120, 121, 122, 48, 49, 50, 51, 52, 53, 54, 55, 56, 57]] (.ret (AV.str x4_10)))]) (st' := ⟨16, [(2, AV.bool (decide (x4_10 = [])))], [], [], []⟩) (by kernel_rfl) ⟨hg5, hg6, d57 a0 [97, 98, 99, 100, 101, 102, 103, 104, 105, 106, 107, 108, 109, 110, 111, 112, 113, 114, 115, 116, 117, 118, 119, 120, 121, 122, 48, 49, 50, 51, 52, 53, 54, 55, 56, 57] _ hx4_10, trivial⟩ ?_
        exact hJ7 (decide (x4_10 = [])) _ h (Le.rfl')
      · rw [if_neg hg6] at h
        have hg6 := Bool.eq_false_iff.2 hg6
        refine awp_reg kpNone [] [(3, true), (8, false)] [2] (cs := [(decide ((1 : Int) ≤ (List.length a0 : Int)) = true), (decide ((List.length a0 : Int) ≤ (12 : Int)) = false)]) (st' := ⟨16, [(2, AV.bool false)], [], [], []⟩) (by kernel_rfl) ⟨hg5, hg6, trivial⟩ ?_
        exact hJ7 false _ h (Le.rfl')
    · rw [if_neg hg5] at h
      have hg5 := Bool.eq_false_iff.2 hg5
      refine awp_reg kpNone [] [(3, false)] [2] (cs := [(decide ((1 : Int) ≤ (List.length a0 : Int)) = false)]) (st' := ⟨16, [(2, AV.bool false)], [], [], []⟩) (by kernel_rfl) ⟨hg5, trivial⟩ ?_
      exact hJ7 false _ h (Le.rfl')


-- res.Check
def F50.j29 (rec11 : (Int) → Option Int) (p11 : Int) : (Bool) → Option Int := fun p29 =>
  if p29 = true then (some 13) else (rec11 (w64 (p11 + (1 : Int))))
def F50.l11 (a0 : (List Amount)) (rec11 : (Int) → Option Int) : (Int) → Option Int := fun p11 =>
  if decide (p11 < (List.length a0 : Int)) = true then ((getI a0 p11).bind fun x17_1 => (F54 x17_1.Name).bind fun x19_2 => if (!x19_2) = true then (some 3) else (if decide (x17_1.N ≤ (0 : Int)) = true then (some 1) else (if decide ((0 : Int) < p11) = true then ((getI a0 (w64 (p11 - (1 : Int)))).bind fun x27_8 => F50.j29 rec11 p11 ((Op.bytesLess x17_1.Name x27_8.Name) || decide (x17_1.Name = x27_8.Name))) else (F50.j29 rec11 p11 false)))) else (some 0)
def F50 (l11 : (Int) → Option Int) (a0 : (List Amount)) : Option Int :=
  if decide ((8 : Int) < (List.length a0 : Int)) = true then (some 4) else (l11 0)
/-- ballast/res.Check -/
theorem c50 (a0 : (List Amount)) (l11 : (Int) → Option Int) (hl11 : Rounds (F50.l11 a0) (l11)) (r : Int) (h : F50 l11 a0 = some r) :
    Det Tryd.prog 50 [AV.lst 2 Amount.av a0] (.ret (AV.int r)) := by
  refine Det.of_le ?_
  refine @calls_of_body Tryd.prog 50 Tryd.f50 _ Tryd.func50 rfl (by kernel_rfl) [.tmp 2] (by rw [Tryd.results50]) 39 Tryd.ntmps50 _ _ _ (by simp only [List.length_cons, List.length_nil]; decide) ?_
  unfold F50 at h
  refine awp_seq fun N1 hN1 => ?_
  refine awp_reg kpNone [] [] [0] (cs := []) (st' := ⟨39, [(0, AV.lst 2 Amount.av a0)], [], [], []⟩) (by kernel_rfl) trivial ?_
  refine hN1 _ ?_
  refine awp_seq fun N3 hN3 => ?_
  refine awp_seq fun N4 hN4 => ?_
  refine awp_reg kpNone [(1, AV.int (List.length a0 : Int))] [] [0, 7] (cs := [((AV.int (List.length a0 : Int) = .val (.int .i64 (List.length (List.map Amount.av a0) : Int))))]) (st' := ⟨39, [(0, AV.lst 2 Amount.av a0), (7, AV.bool (decide ((8 : Int) < (List.length a0 : Int))))], [], [], []⟩) (by kernel_rfl) ⟨len_map _ _, trivial⟩ ?_
  refine hN4 _ ?_
  refine awp_cond (t := decide ((8 : Int) < (List.length a0 : Int))) rfl (fun hb => ?_) (fun hb => ?_)
  · rw [if_pos hb] at h
    refine awp_seq fun N6 hN6 => ?_
    refine awp_reg kpNone [] [] [2] (cs := []) (st' := ⟨39, [(2, AV.int 4)], [], [], []⟩) (by kernel_rfl) trivial ?_
    refine hN6 _ ?_
    have h := Option.some.inj h
    subst h
    exact awp_ret ⟨[AV.int 4], by kernel_rfl, Lw.refl _⟩
  · rw [if_false hb] at h
    refine awp_skip ?_
    refine hN3 _ ?_
    refine awp_seq fun N8 hN8 => ?_
    refine awp_seq fun N9 hN9 => ?_
    refine awp_reg kpNone [(1, AV.int (List.length a0 : Int))] [] [0, 8, 9, 10] (cs := [((AV.int (List.length a0 : Int) = .val (.int .i64 (List.length (List.map Amount.av a0) : Int))))]) (st' := ⟨39, [(0, AV.lst 2 Amount.av a0), (8, AV.lst 2 Amount.av a0), (9, AV.int (List.length a0 : Int)), (10, AV.int 0)], [], [], []⟩) (by kernel_rfl) ⟨len_map _ _, trivial⟩ ?_
    refine hN9 _ ?_
    refine awp_block ?_
    refine awp_loop ?_
    refine awpL_le (st' := ⟨39, [(0, AV.lst 2 Amount.av a0), (8, AV.lst 2 Amount.av a0), (9, AV.int (List.length a0 : Int)), (10, AV.int 0)], [], [], []⟩) ?_ ?_
    · exact Le.rfl'
    refine awpL_fix hl11 r (fun p11 => ⟨39, [(0, AV.lst 2 Amount.av a0), (8, AV.lst 2 Amount.av a0), (9, AV.int (List.length a0 : Int)), (10, AV.int p11)], [], [], []⟩) (fun rec11 hrec11 p11 h => ?_) 0 h
    unfold F50.l11 at h
    refine awpL_round ?_
    refine awp_seq fun N12 hN12 => ?_
    refine awp_reg kpNone [] [] [0, 8, 9, 10, 11] (cs := []) (st' := ⟨39, [(0, AV.lst 2 Amount.av a0), (8, AV.lst 2 Amount.av a0), (9, AV.int (List.length a0 : Int)), (10, AV.int p11), (11, AV.bool (decide (p11 < (List.length a0 : Int))))], [], [], []⟩) (by kernel_rfl) trivial ?_
    refine hN12 _ ?_
    refine awp_seq fun N14 hN14 => ?_
    refine awp_cond (t := decide (p11 < (List.length a0 : Int))) rfl (fun hb => ?_) (fun hb => ?_)
    · rw [if_pos hb] at h
      refine awp_skip ?_
      refine hN14 _ ?_
      refine awp_seq fun N15 hN15 => ?_
      refine awp_block ?_
      refine awp_seq fun N16 hN16 => ?_
      obtain ⟨x17_1, hx17_1, h⟩ := Option.bind_eq_some_iff.1 h
      refine awp_reg kpNone [(1, Amount.av x17_1)] [] [0, 3, 4, 8, 9, 10] (cs := [(0 ≤ p11), ((List.map Amount.av a0)[Int.toNat p11]? = some (Amount.av x17_1))]) (st' := ⟨39, [(0, AV.lst 2 Amount.av a0), (3, AV.int p11), (4, .varp 4 0), (8, AV.lst 2 Amount.av a0), (9, AV.int (List.length a0 : Int)), (10, AV.int p11)], [(4, (false, [AV.str x17_1.Name, AV.int x17_1.N]))], [], []⟩) (by kernel_rfl) ⟨getI_le hx17_1, getI_map hx17_1 _, trivial⟩ ?_
      refine hN16 _ ?_
      refine awp_block ?_
      refine awp_seq fun N18 hN18 => ?_
      obtain ⟨x19_2, hx19_2, h⟩ := Option.bind_eq_some_iff.1 h
      refine awp_reg kpNone [(2, AV.bool x19_2)] [] [0, 3, 4, 8, 9, 10, 15] (cs := [(Det Tryd.prog 54 [AV.str x17_1.Name] (.ret (AV.bool x19_2)))]) (st' := ⟨39, [(0, AV.lst 2 Amount.av a0), (3, AV.int p11), (4, .varp 4 0), (8, AV.lst 2 Amount.av a0), (9, AV.int (List.length a0 : Int)), (10, AV.int p11), (15, AV.bool (!x19_2))], [(4, (false, [AV.str x17_1.Name, AV.int x17_1.N]))], [], []⟩) (by kernel_rfl) ⟨c54 x17_1.Name _ hx19_2, trivial⟩ ?_
      refine hN18 _ ?_
      refine awp_cond (t := (!x19_2)) rfl (fun hb => ?_) (fun hb => ?_)
      · rw [if_pos hb] at h
        refine awp_seq fun N20 hN20 => ?_
        refine awp_reg kpNone [] [] [2] (cs := []) (st' := ⟨39, [(2, AV.int 3)], [(4, (false, [AV.str x17_1.Name, AV.int x17_1.N]))], [], []⟩) (by kernel_rfl) trivial ?_
        refine hN20 _ ?_
        have h := Option.some.inj h
        subst h
        exact awp_ret ⟨[AV.int 3], by kernel_rfl, Lw.refl _⟩
      · rw [if_false hb] at h
        refine awp_seq fun N22 hN22 => ?_
        refine awp_reg kpNone [] [] [0, 3, 4, 8, 9, 10, 20] (cs := []) (st' := ⟨39, [(0, AV.lst 2 Amount.av a0), (3, AV.int p11), (4, .varp 4 0), (8, AV.lst 2 Amount.av a0), (9, AV.int (List.length a0 : Int)), (10, AV.int p11), (20, AV.bool (decide (x17_1.N ≤ (0 : Int))))], [(4, (false, [AV.str x17_1.Name, AV.int x17_1.N]))], [], []⟩) (by kernel_rfl) trivial ?_
        refine hN22 _ ?_
        refine awp_cond (t := decide (x17_1.N ≤ (0 : Int))) rfl (fun hb => ?_) (fun hb => ?_)
        · rw [if_pos hb] at h
          refine awp_seq fun N24 hN24 => ?_
          refine awp_reg kpNone [] [] [2] (cs := []) (st' := ⟨39, [(2, AV.int 1)], [(4, (false, [AV.str x17_1.Name, AV.int x17_1.N]))], [], []⟩) (by kernel_rfl) trivial ?_
          refine hN24 _ ?_
          have h := Option.some.inj h
          subst h
          exact awp_ret ⟨[AV.int 1], by kernel_rfl, Lw.refl _⟩
        · rw [if_false hb] at h
          refine awp_seq fun N26 hN26 => ?_
          refine awp_to (σ := Bool) (fun p29 => ⟨39, [(0, AV.lst 2 Amount.av a0), (8, AV.lst 2 Amount.av a0), (9, AV.int (List.length a0 : Int)), (10, AV.int p11), (24, AV.bool p29)], [(4, (false, [AV.str x17_1.Name, AV.int x17_1.N]))], [], []⟩) (fun p29 => F50.j29 rec11 p11 p29 = some r) (fun p29 h => ?_) (fun N29 hJ29 => ?_)
          · unfold F50.j29 at h
            refine hN26 _ ?_
            refine awp_cond (t := p29) rfl (fun hb => ?_) (fun hb => ?_)
            · rw [if_pos hb] at h
              refine awp_seq fun N30 hN30 => ?_
              refine awp_reg kpNone [] [] [2] (cs := []) (st' := ⟨39, [(2, AV.int 13)], [(4, (false, [AV.str x17_1.Name, AV.int x17_1.N]))], [], []⟩) (by kernel_rfl) trivial ?_
              refine hN30 _ ?_
              have h := Option.some.inj h
              subst h
              exact awp_ret ⟨[AV.int 13], by kernel_rfl, Lw.refl _⟩
            · rw [if_false hb] at h
              refine awp_skip ?_
              refine hN15 _ ?_
              refine awp_reg kpNone [] [] [0, 8, 9, 10] (cs := []) (st' := ⟨39, [(0, AV.lst 2 Amount.av a0), (8, AV.lst 2 Amount.av a0), (9, AV.int (List.length a0 : Int)), (10, AV.int (w64 (p11 + (1 : Int))))], [(4, (false, [AV.str x17_1.Name, AV.int x17_1.N]))], [], []⟩) (by kernel_rfl) trivial ?_
              refine awpL_le ?_ (hrec11 _ h)
              exact Le.mk rfl ⟨.inl rfl, .inl rfl, rfl, rfl, trivial⟩ trivial trivial trivial
          · by_cases hg28 : decide ((0 : Int) < p11) = true
            · rw [if_pos hg28] at h
              obtain ⟨x27_8, hx27_8, h⟩ := Option.bind_eq_some_iff.1 h
              refine awp_regD mixedTryd kpNone [(8, Amount.av x27_8)] [(2, true)] [0, 8, 9, 10, 24] (by kernel_rfl) (cs := [(decide ((0 : Int) < p11) = true), (0 ≤ (w64 (p11 - (1 : Int)))), ((List.map Amount.av a0)[Int.toNat (w64 (p11 - (1 : Int)))]? = some (Amount.av x27_8))]) (st' := ⟨39, [(0, AV.lst 2 Amount.av a0), (8, AV.lst 2 Amount.av a0), (9, AV.int (List.length a0 : Int)), (10, AV.int p11), (24, AV.bool ((Op.bytesLess x17_1.Name x27_8.Name) || decide (x17_1.Name = x27_8.Name)))], [(4, (false, [AV.str x17_1.Name, AV.int x17_1.N]))], [], []⟩) (by kernel_rfl) ⟨hg28, getI_le hx27_8, getI_map hx27_8 _, trivial⟩ ?_
              exact hJ29 ((Op.bytesLess x17_1.Name x27_8.Name) || decide (x17_1.Name = x27_8.Name)) _ h (Le.rfl')
            · rw [if_neg hg28] at h
              have hg28 := Bool.eq_false_iff.2 hg28
              refine awp_regD mixedTryd kpNone [] [(2, false)] [0, 8, 9, 10, 24] (by kernel_rfl) (cs := [(decide ((0 : Int) < p11) = false)]) (st' := ⟨39, [(0, AV.lst 2 Amount.av a0), (8, AV.lst 2 Amount.av a0), (9, AV.int (List.length a0 : Int)), (10, AV.int p11), (24, AV.bool false)], [(4, (false, [AV.str x17_1.Name, AV.int x17_1.N]))], [], []⟩) (by kernel_rfl) ⟨hg28, trivial⟩ ?_
              exact hJ29 false _ h (Le.rfl')
    · rw [if_false hb] at h
      refine awp_exit ?_
      refine hN8 _ ?_
      refine awp_seq fun N33 hN33 => ?_
      refine awp_reg kpNone [] [] [2] (cs := []) (st' := ⟨39, [(2, AV.int 0)], [], [], []⟩) (by kernel_rfl) trivial ?_
      refine hN33 _ ?_
      have h := Option.some.inj h
      subst h
      exact awp_ret ⟨[AV.int 0], by kernel_rfl, Lw.refl _⟩
def A50.l11 (a0 : (List Amount)) : (Int) → Option Int := iterL (F50.l11 a0) 4096
def A50 (a0 : (List Amount)) : Option Int := F50 (A50.l11 a0) a0
theorem d50 (a0 : (List Amount)) (r : Int) (h : A50 a0 = some r) :
    Det Tryd.prog 50 [AV.lst 2 Amount.av a0] (.ret (AV.int r)) := by
  exact c50 a0 (A50.l11 a0) (rounds_iter _ _) r h


-- qty.Stop
def F45 (a0 : Int) : Option (Res Unit) :=
  if decide (¬ a0 = (0 : Int)) = true then (some (.stop a0)) else (some (.ret ()))
/-- ballast/qty.Stop -/
theorem c45 (a0 : Int) (r : (Res Unit)) (h : F45 a0 = some r) :
    Det Tryd.prog 45 [AV.int a0] (Res.out 86 (fun r => .tuple []) r) := by
  refine Det.of_le ?_
  refine @calls_of_body Tryd.prog 45 Tryd.f45 _ Tryd.func45 rfl (by kernel_rfl) [] (by rw [Tryd.results45]) 7 Tryd.ntmps45 _ _ _ (by simp only [List.length_cons, List.length_nil]; decide) ?_
  unfold F45 at h
  refine awp_seq fun N1 hN1 => ?_
  refine awp_reg kpNone [] [] [0, 3] (cs := []) (st' := ⟨7, [(0, AV.int a0), (3, AV.bool (decide (¬ a0 = (0 : Int))))], [], [], []⟩) (by kernel_rfl) trivial ?_
  refine hN1 _ ?_
  refine awp_cond (t := decide (¬ a0 = (0 : Int))) rfl (fun hb => ?_) (fun hb => ?_)
  · rw [if_pos hb] at h
    have h := Option.some.inj h
    subst h
    refine awp_panOp kpNone [] [] 3 (v := AV.iface 86 (.agg [AV.int a0])) (cs := [((AV.iface 86 (.agg [AV.int a0])) = AV.iface 86 (.agg [AV.int a0]))]) (st' := ⟨7, [], [], [], []⟩) (by kernel_rfl) ⟨rfl, trivial⟩ ?_
    exact Lw.refl _
  · rw [if_false hb] at h
    refine awp_skip ?_
    have h := Option.some.inj h
    subst h
    try simp only [thenA, blockA, eq_self, if_true]
    exact (show endQ _ _ _ .normal _ from ⟨[], by kernel_rfl, Lw.refl _⟩)


-- slices.Sort[[]string,string]

-- alone
-- {"kind": "row", "S": "sortS", "thm": "d55"}
def lay190_ren : Go.Shelf.Ren := ⟨fun | 125 => 59 | 128 => 76 | 129 => 77 | 190 => 55 | 258 => 58 | 302 => 67 | 303 => 68 | 304 => 69 | 305 => 70 | 306 => 71 | 307 => 72 | 308 => 73 | 309 => 74 | 310 => 75 | 329 => 83 | 330 => 84 | 333 => 82 | 334 => 85 | 335 => 86 | 336 => 87 | 344 => 91 | n => n, fun | 0 => 0 | 3 => 3 | 4 => 4 | 5 => 5 | 9 => 9 | 31 => 94 | 46 => 104 | 51 => 122 | 53 => 69 | 131 => 119 | 182 => 113 | 183 => 114 | 218 => 128 | 222 => 132 | 228 => 135 | 229 => 136 | n => n, fun n => n⟩
theorem lay190 : Lays.n190 Tryd.prog lay190_ren := {
  mixed := by kernel_rfl,
  f125 := Tryd.func59.trans (congrArg some (by kernel_rfl)),
  f128 := Tryd.func76.trans (congrArg some (by kernel_rfl)),
  f129 := Tryd.func77.trans (congrArg some (by kernel_rfl)),
  f190 := Tryd.func55.trans (congrArg some (by kernel_rfl)),
  f258 := Tryd.func58.trans (congrArg some (by kernel_rfl)),
  f302 := Tryd.func67.trans (congrArg some (by kernel_rfl)),
  f303 := Tryd.func68.trans (congrArg some (by kernel_rfl)),
  f304 := Tryd.func69.trans (congrArg some (by kernel_rfl)),
  f305 := Tryd.func70.trans (congrArg some (by kernel_rfl)),
  f306 := Tryd.func71.trans (congrArg some (by kernel_rfl)),
  f307 := Tryd.func72.trans (congrArg some (by kernel_rfl)),
  f308 := Tryd.func73.trans (congrArg some (by kernel_rfl)),
  f309 := Tryd.func74.trans (congrArg some (by kernel_rfl)),
  f310 := Tryd.func75.trans (congrArg some (by kernel_rfl)),
  f329 := Tryd.func83.trans (congrArg some (by kernel_rfl)),
  f330 := Tryd.func84.trans (congrArg some (by kernel_rfl)),
  f333 := Tryd.func82.trans (congrArg some (by kernel_rfl)),
  f334 := Tryd.func85.trans (congrArg some (by kernel_rfl)),
  f335 := Tryd.func86.trans (congrArg some (by kernel_rfl)),
  f336 := Tryd.func87.trans (congrArg some (by kernel_rfl)),
  f344 := Tryd.func91.trans (congrArg some (by kernel_rfl)),
  t0 := Tryd.underlying0,
  a0 := Tryd.isAgg0,
  z0 := Tryd.sizeOf0,
  v0 := Tryd.zeroValue0,
  t3 := Tryd.underlying3,
  a3 := Tryd.isAgg3,
  z3 := Tryd.sizeOf3,
  v3 := Tryd.zeroValue3,
  t4 := Tryd.underlying4,
  a4 := Tryd.isAgg4,
  z4 := Tryd.sizeOf4,
  v4 := Tryd.zeroValue4,
  t5 := Tryd.underlying5,
  a5 := Tryd.isAgg5,
  z5 := Tryd.sizeOf5,
  v5 := Tryd.zeroValue5,
  t9 := Tryd.underlying9,
  a9 := Tryd.isAgg9,
  z9 := Tryd.sizeOf9,
  v9 := Tryd.zeroValue9,
  t31 := Tryd.underlying94,
  a31 := Tryd.isAgg94,
  z31 := Tryd.sizeOf94,
  v31 := Tryd.zeroValue94,
  t46 := Tryd.underlying104,
  a46 := Tryd.isAgg104,
  z46 := Tryd.sizeOf104,
  v46 := Tryd.zeroValue104,
  t51 := Tryd.underlying122,
  a51 := Tryd.isAgg122,
  z51 := Tryd.sizeOf122,
  v51 := Tryd.zeroValue122,
  t53 := Tryd.underlying69,
  a53 := Tryd.isAgg69,
  z53 := Tryd.sizeOf69,
  v53 := Tryd.zeroValue69,
  t131 := Tryd.underlying119,
  a131 := Tryd.isAgg119,
  z131 := Tryd.sizeOf119,
  v131 := Tryd.zeroValue119,
  t182 := Tryd.underlying113,
  a182 := Tryd.isAgg113,
  z182 := Tryd.sizeOf113,
  v182 := Tryd.zeroValue113,
  t183 := Tryd.underlying114,
  a183 := Tryd.isAgg114,
  z183 := Tryd.sizeOf114,
  v183 := Tryd.zeroValue114,
  t218 := Tryd.underlying128,
  a218 := Tryd.isAgg128,
  z218 := Tryd.sizeOf128,
  v218 := Tryd.zeroValue128,
  t222 := Tryd.underlying132,
  a222 := Tryd.isAgg132,
  z222 := Tryd.sizeOf132,
  v222 := Tryd.zeroValue132,
  t228 := Tryd.underlying135,
  a228 := Tryd.isAgg135,
  z228 := Tryd.sizeOf135,
  v228 := Tryd.zeroValue135,
  t229 := Tryd.underlying136,
  a229 := Tryd.isAgg136,
  z229 := Tryd.sizeOf136,
  v229 := Tryd.zeroValue136 }

theorem d55 : SortsS Tryd.prog 55 where
  ent := fun args w => by simp [callFunc, Tryd.func55, Tryd.f55]
  some := fun blk cap ss w h1 h2 h3 => Any.slices_Sort_string lay190 blk 0 cap ss w h1 h2 h3
  none := fun a cap w => Any.slices_Sort_string_none lay190 a cap w


-- slices.Compact[[]string,string]

-- alone
-- {"kind": "row", "S": "compS", "thm": "d56"}
def lay194_ren : Go.Shelf.Ren := ⟨fun | 194 => 56 | n => n, fun | 0 => 0 | 3 => 3 | 4 => 4 | 9 => 9 | 31 => 94 | n => n, fun n => n⟩
theorem lay194 : Lays.n194 Tryd.prog lay194_ren := {
  mixed := by kernel_rfl,
  f194 := Tryd.func56.trans (congrArg some (by kernel_rfl)),
  t0 := Tryd.underlying0,
  a0 := Tryd.isAgg0,
  z0 := Tryd.sizeOf0,
  v0 := Tryd.zeroValue0,
  t3 := Tryd.underlying3,
  a3 := Tryd.isAgg3,
  z3 := Tryd.sizeOf3,
  v3 := Tryd.zeroValue3,
  t4 := Tryd.underlying4,
  a4 := Tryd.isAgg4,
  z4 := Tryd.sizeOf4,
  v4 := Tryd.zeroValue4,
  t9 := Tryd.underlying9,
  a9 := Tryd.isAgg9,
  z9 := Tryd.sizeOf9,
  v9 := Tryd.zeroValue9,
  t31 := Tryd.underlying94,
  a31 := Tryd.isAgg94,
  z31 := Tryd.sizeOf94,
  v31 := Tryd.zeroValue94 }

theorem d56 : CompactsS Tryd.prog 56 where
  ent := fun args w => by simp [callFunc, Tryd.func56, Tryd.f56]
  some := fun blk cap zs w h1 h2 h3 => Any.slices_Compact_string lay194 blk 0 cap zs w h1 h2 h3
  none := fun a cap w => Any.slices_Compact_string_empty lay194 a cap w


-- res.names
def F51.l17 (x14_0 : (List Amount)) (rec8 : (List Str × Int) → Option (List Str)) (p8 : List Str × Int) (rec17 : (List Str × Int) → Option (List Str)) : (List Str × Int) → Option (List Str) := fun p17 =>
  if decide (p17.2 < (List.length x14_0 : Int)) = true then ((getI x14_0 p17.2).bind fun x23_0 => if fits 16 (List.length (p17.1 ++ [x23_0.Name])) then (rec17 (p17.1 ++ [x23_0.Name], w64 (p17.2 + (1 : Int)))) else none) else (rec8 (p17.1, w64 (p8.2 + (1 : Int))))
def F51.l8 (a0 : (List (List Amount))) (l17 : ((List Amount)) → ((List Str × Int) → Option (List Str)) → (List Str × Int) → (List Str × Int) → Option (List Str)) (rec8 : (List Str × Int) → Option (List Str)) : (List Str × Int) → Option (List Str) := fun p8 =>
  if decide (p8.2 < (List.length a0 : Int)) = true then ((getI a0 p8.2).bind fun x14_0 => l17 x14_0 rec8 p8 (p8.1, 0)) else (if List.length p8.1 < 4611686018427387904 then (if List.length (sortS p8.1) ≤ 9223372036854775807 then (some (compS (sortS p8.1))) else none) else none)
def F51 (l17 : ((List Amount)) → ((List Str × Int) → Option (List Str)) → (List Str × Int) → (List Str × Int) → Option (List Str)) (l8 : (((List Amount)) → ((List Str × Int) → Option (List Str)) → (List Str × Int) → (List Str × Int) → Option (List Str)) → (List Str × Int) → Option (List Str)) (a0 : (List (List Amount))) : Option (List Str) :=
  l8 l17 (([] : List Str), 0)
/-- ballast/res.names -/
theorem c51 (a0 : (List (List Amount))) (l17 : ((List Amount)) → ((List Str × Int) → Option (List Str)) → (List Str × Int) → (List Str × Int) → Option (List Str)) (l8 : (((List Amount)) → ((List Str × Int) → Option (List Str)) → (List Str × Int) → (List Str × Int) → Option (List Str)) → (List Str × Int) → Option (List Str)) (hl17 : ∀ (x14_0 : (List Amount)), ∀ (rec8 : (List Str × Int) → Option (List Str)), ∀ (p8 : List Str × Int), Rounds (F51.l17 x14_0 rec8 p8) (l17 x14_0 rec8 p8)) (hl8 : ∀ (l17 : ((List Amount)) → ((List Str × Int) → Option (List Str)) → (List Str × Int) → (List Str × Int) → Option (List Str)), Rounds (F51.l8 a0 l17) (l8 l17)) (r : (List Str)) (h : F51 l17 l8 a0 = some r) :
    Det Tryd.prog 51 [AV.lst 1 (AV.lst 2 Amount.av) a0] (.ret (AV.lst 1 AV.str r)) := by
  refine Det.of_le ?_
  refine @calls_of_body Tryd.prog 51 Tryd.f51 _ Tryd.func51 rfl (by kernel_rfl) [.tmp 2] (by rw [Tryd.results51]) 31 Tryd.ntmps51 _ _ _ (by simp only [List.length_cons, List.length_nil]; decide) ?_
  unfold F51 at h
  refine awp_seq fun N1 hN1 => ?_
  refine awp_reg kpNone [] [] [0] (cs := []) (st' := ⟨31, [(0, AV.lst 1 (AV.lst 2 Amount.av) a0)], [], [], []⟩) (by kernel_rfl) trivial ?_
  refine hN1 _ ?_
  refine awp_seq fun N3 hN3 => ?_
  refine awp_reg kpNone [] [] [0, 3] (cs := []) (st' := ⟨31, [(0, AV.lst 1 (AV.lst 2 Amount.av) a0), (3, .nils)], [], [], []⟩) (by kernel_rfl) trivial ?_
  refine hN3 _ ?_
  refine awp_seq fun N5 hN5 => ?_
  refine awp_seq fun N6 hN6 => ?_
  refine awp_reg kpNone [(1, AV.int (List.length a0 : Int))] [] [3, 8, 9, 10] (cs := [((AV.int (List.length a0 : Int) = .val (.int .i64 (List.length (List.map (AV.lst 2 Amount.av) a0) : Int))))]) (st' := ⟨31, [(3, .nils), (8, AV.lst 1 (AV.lst 2 Amount.av) a0), (9, AV.int (List.length a0 : Int)), (10, AV.int 0)], [], [], []⟩) (by kernel_rfl) ⟨len_map _ _, trivial⟩ ?_
  refine hN6 _ ?_
  refine awp_block ?_
  refine awp_loop ?_
  refine awpL_le (st' := ⟨31, [(3, .slice (.own 24) 1 (List.map AV.str ([] : List Str))), (8, AV.lst 1 (AV.lst 2 Amount.av) a0), (9, AV.int (List.length a0 : Int)), (10, AV.int 0)], [], [], [(24, (9, 1, List.length (List.map AV.str ([] : List Str))))]⟩) ?_ ?_
  · exact Le.mk rfl ⟨.inr ⟨rfl, rfl, rfl⟩, .inl rfl, rfl, rfl, trivial⟩ trivial ⟨⟨rfl, by decide⟩, trivial⟩ trivial
  refine awpL_fix (hl8 l17) r (fun p8 => ⟨31, [(3, .slice (.own 24) 1 (List.map AV.str p8.1)), (8, AV.lst 1 (AV.lst 2 Amount.av) a0), (9, AV.int (List.length a0 : Int)), (10, AV.int p8.2)], [], [], [(24, (9, 1, List.length (List.map AV.str p8.1)))]⟩) (fun rec8 hrec8 p8 h => ?_) (([] : List Str), 0) h
  unfold F51.l8 at h
  refine awpL_round ?_
  refine awp_seq fun N9 hN9 => ?_
  refine awp_reg kpNone [] [] [3, 8, 9, 10, 11] (cs := []) (st' := ⟨31, [(3, .slice (.own 24) 1 (List.map AV.str p8.1)), (8, AV.lst 1 (AV.lst 2 Amount.av) a0), (9, AV.int (List.length a0 : Int)), (10, AV.int p8.2), (11, AV.bool (decide (p8.2 < (List.length a0 : Int))))], [], [], [(24, (9, 1, List.length (List.map AV.str p8.1)))]⟩) (by kernel_rfl) trivial ?_
  refine hN9 _ ?_
  refine awp_seq fun N11 hN11 => ?_
  refine awp_cond (t := decide (p8.2 < (List.length a0 : Int))) rfl (fun hb => ?_) (fun hb => ?_)
  · rw [if_pos hb] at h
    refine awp_skip ?_
    refine hN11 _ ?_
    refine awp_seq fun N12 hN12 => ?_
    refine awp_block ?_
    refine awp_seq fun N13 hN13 => ?_
    obtain ⟨x14_0, hx14_0, h⟩ := Option.bind_eq_some_iff.1 h
    refine awp_reg kpNone [(0, AV.lst 2 Amount.av x14_0)] [] [3, 5, 8, 9, 10] (cs := [(0 ≤ p8.2), ((List.map (AV.lst 2 Amount.av) a0)[Int.toNat p8.2]? = some (AV.lst 2 Amount.av x14_0))]) (st' := ⟨31, [(3, .slice (.own 24) 1 (List.map AV.str p8.1)), (5, AV.lst 2 Amount.av x14_0), (8, AV.lst 1 (AV.lst 2 Amount.av) a0), (9, AV.int (List.length a0 : Int)), (10, AV.int p8.2)], [], [], [(24, (9, 1, List.length (List.map AV.str p8.1)))]⟩) (by kernel_rfl) ⟨getI_le hx14_0, getI_map hx14_0 _, trivial⟩ ?_
    refine hN13 _ ?_
    refine awp_seq fun N15 hN15 => ?_
    refine awp_reg kpNone [(1, AV.int (List.length x14_0 : Int))] [] [3, 8, 9, 10, 14, 15, 16] (cs := [((AV.int (List.length x14_0 : Int) = .val (.int .i64 (List.length (List.map Amount.av x14_0) : Int))))]) (st' := ⟨31, [(3, .slice (.own 24) 1 (List.map AV.str p8.1)), (8, AV.lst 1 (AV.lst 2 Amount.av) a0), (9, AV.int (List.length a0 : Int)), (10, AV.int p8.2), (14, AV.lst 2 Amount.av x14_0), (15, AV.int (List.length x14_0 : Int)), (16, AV.int 0)], [], [], [(24, (9, 1, List.length (List.map AV.str p8.1)))]⟩) (by kernel_rfl) ⟨len_map _ _, trivial⟩ ?_
    refine hN15 _ ?_
    refine awp_block ?_
    refine awp_loop ?_
    refine awpL_le (st' := ⟨31, [(3, .slice (.own 24) 1 (List.map AV.str p8.1)), (8, AV.lst 1 (AV.lst 2 Amount.av) a0), (9, AV.int (List.length a0 : Int)), (10, AV.int p8.2), (14, AV.lst 2 Amount.av x14_0), (15, AV.int (List.length x14_0 : Int)), (16, AV.int 0)], [], [], [(24, (9, 1, List.length (List.map AV.str p8.1)))]⟩) ?_ ?_
    · exact Le.rfl'
    refine awpL_fix (hl17 x14_0 rec8 p8) r (fun p17 => ⟨31, [(3, .slice (.own 24) 1 (List.map AV.str p17.1)), (8, AV.lst 1 (AV.lst 2 Amount.av) a0), (9, AV.int (List.length a0 : Int)), (10, AV.int p8.2), (14, AV.lst 2 Amount.av x14_0), (15, AV.int (List.length x14_0 : Int)), (16, AV.int p17.2)], [], [], [(24, (9, 1, List.length (List.map AV.str p17.1)))]⟩) (fun rec17 hrec17 p17 h => ?_) (p8.1, 0) h
    unfold F51.l17 at h
    refine awpL_round ?_
    refine awp_seq fun N18 hN18 => ?_
    refine awp_reg kpNone [] [] [3, 8, 9, 10, 14, 15, 16, 17] (cs := []) (st' := ⟨31, [(3, .slice (.own 24) 1 (List.map AV.str p17.1)), (8, AV.lst 1 (AV.lst 2 Amount.av) a0), (9, AV.int (List.length a0 : Int)), (10, AV.int p8.2), (14, AV.lst 2 Amount.av x14_0), (15, AV.int (List.length x14_0 : Int)), (16, AV.int p17.2), (17, AV.bool (decide (p17.2 < (List.length x14_0 : Int))))], [], [], [(24, (9, 1, List.length (List.map AV.str p17.1)))]⟩) (by kernel_rfl) trivial ?_
    refine hN18 _ ?_
    refine awp_seq fun N20 hN20 => ?_
    refine awp_cond (t := decide (p17.2 < (List.length x14_0 : Int))) rfl (fun hb => ?_) (fun hb => ?_)
    · rw [if_pos hb] at h
      refine awp_skip ?_
      refine hN20 _ ?_
      refine awp_seq fun N21 hN21 => ?_
      refine awp_block ?_
      refine awp_seq fun N22 hN22 => ?_
      obtain ⟨x23_0, hx23_0, h⟩ := Option.bind_eq_some_iff.1 h
      refine awp_reg kpNone [(0, Amount.av x23_0)] [] [3, 7, 8, 9, 10, 14, 15, 16] (cs := [(0 ≤ p17.2), ((List.map Amount.av x14_0)[Int.toNat p17.2]? = some (Amount.av x23_0))]) (st' := ⟨31, [(3, .slice (.own 24) 1 (List.map AV.str p17.1)), (7, .varp 7 0), (8, AV.lst 1 (AV.lst 2 Amount.av) a0), (9, AV.int (List.length a0 : Int)), (10, AV.int p8.2), (14, AV.lst 2 Amount.av x14_0), (15, AV.int (List.length x14_0 : Int)), (16, AV.int p17.2)], [(7, (false, [AV.str x23_0.Name, AV.int x23_0.N]))], [], [(24, (9, 1, List.length (List.map AV.str p17.1)))]⟩) (by kernel_rfl) ⟨getI_le hx23_0, getI_map hx23_0 _, trivial⟩ ?_
      refine hN22 _ ?_
      obtain ⟨hp24_4, h⟩ := guardP h
      refine awp_reg kpNone [(4, AV.lst 1 AV.str (p17.1 ++ [x23_0.Name]))] [] [3, 8, 9, 10, 14, 15, 16] (cs := [(List.length (List.map AV.str p17.1) = List.length (List.map AV.str p17.1)), (List.length (List.map AV.str (p17.1 ++ [x23_0.Name])) * 16 ≤ 140737488355328), (List.length (List.map AV.str (p17.1 ++ [x23_0.Name])) ≤ 140737488355328), (List.map AV.str p17.1 ++ List.map AV.str [x23_0.Name] = List.map AV.str (p17.1 ++ [x23_0.Name]))]) (st' := ⟨31, [(3, .slice (.own 24) 1 (List.map AV.str (p17.1 ++ [x23_0.Name]))), (8, AV.lst 1 (AV.lst 2 Amount.av) a0), (9, AV.int (List.length a0 : Int)), (10, AV.int p8.2), (14, AV.lst 2 Amount.av x14_0), (15, AV.int (List.length x14_0 : Int)), (16, AV.int p17.2)], [(7, (false, [AV.str x23_0.Name, AV.int x23_0.N]))], [], [(24, (9, 1, List.length (List.map AV.str (p17.1 ++ [x23_0.Name])))), (23, (9, 1, 1))]⟩) (by kernel_rfl) ⟨by simp only [List.length_map, List.length_cons, List.length_nil], len_mul _ _ _ _ hp24_4.1, len_ge _ _ hp24_4.2, lst_app _ _ _, trivial⟩ ?_
      refine hN21 _ ?_
      refine awp_reg kpNone [] [] [3, 8, 9, 10, 14, 15, 16] (cs := []) (st' := ⟨31, [(3, .slice (.own 24) 1 (List.map AV.str (p17.1 ++ [x23_0.Name]))), (8, AV.lst 1 (AV.lst 2 Amount.av) a0), (9, AV.int (List.length a0 : Int)), (10, AV.int p8.2), (14, AV.lst 2 Amount.av x14_0), (15, AV.int (List.length x14_0 : Int)), (16, AV.int (w64 (p17.2 + (1 : Int))))], [(7, (false, [AV.str x23_0.Name, AV.int x23_0.N]))], [], [(24, (9, 1, List.length (List.map AV.str (p17.1 ++ [x23_0.Name])))), (23, (9, 1, 1))]⟩) (by kernel_rfl) trivial ?_
      refine awpL_le ?_ (hrec17 _ h)
      exact Le.mk rfl ⟨.inl ⟨rfl, rfl⟩, .inl rfl, rfl, rfl, .inl rfl, rfl, rfl, trivial⟩ trivial ⟨rfl, trivial⟩ trivial
    · rw [if_false hb] at h
      refine awp_exit ?_
      refine hN12 _ ?_
      refine awp_reg kpNone [] [] [3, 8, 9, 10] (cs := []) (st' := ⟨31, [(3, .slice (.own 24) 1 (List.map AV.str p17.1)), (8, AV.lst 1 (AV.lst 2 Amount.av) a0), (9, AV.int (List.length a0 : Int)), (10, AV.int (w64 (p8.2 + (1 : Int))))], [], [], [(24, (9, 1, List.length (List.map AV.str p17.1)))]⟩) (by kernel_rfl) trivial ?_
      refine awpL_le ?_ (hrec8 _ h)
      exact Le.rfl'
  · rw [if_false hb] at h
    refine awp_exit ?_
    refine hN5 _ ?_
    refine awp_seq fun N27 hN27 => ?_
    obtain ⟨hp28, h⟩ := guardP h
    refine awp_sort d55 (t0 := 3) (i := 24) (e := 9) (ss := p8.1) rfl rfl rfl (show 27 < 31 by decide) (by decide) rfl rfl rfl (by decide) rfl rfl rfl hp28 ?_
    refine hN27 _ ?_
    refine awp_seq fun N29 hN29 => ?_
    obtain ⟨hp30, h⟩ := guardP h
    refine awp_compact d56 (t0 := 3) (i := 24) (e := 9) (ss := sortS p8.1) rfl rfl rfl (show 29 < 31 by decide) rfl rfl rfl (show 30 < 31 by decide) rfl rfl rfl (show 2 < 31 by decide) rfl rfl rfl hp30 ?_
    refine hN29 _ ?_
    have h := Option.some.inj h
    subst h
    exact awp_ret ⟨[AV.lst 1 AV.str (compS (sortS p8.1))], by kernel_rfl, Lw.refl _⟩
def A51.l17 (a0 : (List (List Amount))) (x14_0 : (List Amount)) (rec8 : (List Str × Int) → Option (List Str)) (p8 : List Str × Int) : (List Str × Int) → Option (List Str) := iterL (F51.l17 x14_0 rec8 p8) 4096
def A51.l8 (a0 : (List (List Amount))) (l17 : ((List Amount)) → ((List Str × Int) → Option (List Str)) → (List Str × Int) → (List Str × Int) → Option (List Str)) : (List Str × Int) → Option (List Str) := iterL (F51.l8 a0 l17) 4096
def A51 (a0 : (List (List Amount))) : Option (List Str) := F51 (A51.l17 a0) (A51.l8 a0) a0
theorem d51 (a0 : (List (List Amount))) (r : (List Str)) (h : A51 a0 = some r) :
    Det Tryd.prog 51 [AV.lst 1 (AV.lst 2 Amount.av) a0] (.ret (AV.lst 1 AV.str r)) := by
  exact c51 a0 (A51.l17 a0) (A51.l8 a0) (fun _ _ _ => rounds_iter _ _) (fun _ => rounds_iter _ _) r h


-- res.made$1
def F49.j29 (rec16 : (Int × List Amount) → Option ((Res Unit) × (List Amount))) (p16 : Int × List Amount) : (List Amount) → Option ((Res Unit) × (List Amount)) := fun p29 =>
  rec16 (w64 (p16.1 + (1 : Int)), p29)
def F49.j34 (p16 : Int × List Amount) : (Unit) → Option ((Res Unit) × (List Amount)) := fun p34 =>
  some ((.ret ()), p16.2)
def F49.l16 (x15_1 : (List Str)) (g1 : Str → Option (Int × Int)) (rec16 : (Int × List Amount) → Option ((Res Unit) × (List Amount))) : (Int × List Amount) → Option ((Res Unit) × (List Amount)) := fun p16 =>
  if decide (p16.1 < (List.length x15_1 : Int)) = true then ((getI x15_1 p16.1).bind fun x22_0 => (g1 x22_0).bind fun x24_2 => thnX (F45 x24_2.2) (fun e => some (.stop e, p16.2)) fun x26_1 => if decide ((0 : Int) < x24_2.1) = true then (if fits 24 (List.length (p16.2 ++ [(⟨x22_0, x24_2.1⟩ : Amount)])) then (F49.j29 rec16 p16 (p16.2 ++ [(⟨x22_0, x24_2.1⟩ : Amount)])) else none) else (F49.j29 rec16 p16 p16.2)) else (if decide ((8 : Int) < (List.length p16.2 : Int)) = true then (thnX (F45 4) (fun e => some (.stop e, p16.2)) fun x35_0 => F49.j34 p16 ()) else (F49.j34 p16 ()))
def F49.l4 (a0 : (List (List Amount))) (l16 : ((List Str)) → (Int × List Amount) → Option ((Res Unit) × (List Amount))) (rec4 : (Int) → Option ((Res Unit) × (List Amount))) : (Int) → Option ((Res Unit) × (List Amount)) := fun p4 =>
  if decide (p4 < (List.length a0 : Int)) = true then ((getI a0 p4).bind fun x10_0 => (A50 x10_0).bind fun x11_1 => thnX (F45 x11_1) (fun e => some (.stop e, ([] : (List Amount)))) fun x11_2 => rec4 (w64 (p4 + (1 : Int)))) else ((A51 a0).bind fun x15_1 => l16 x15_1 (0, ([] : List Amount)))
def F49 (l16 : ((List Str)) → (Int × List Amount) → Option ((Res Unit) × (List Amount))) (l4 : (((List Str)) → (Int × List Amount) → Option ((Res Unit) × (List Amount))) → (Int) → Option ((Res Unit) × (List Amount))) (a0 : (List (List Amount))) (g1 : Str → Option (Int × Int)) : Option ((Res Unit) × (List Amount)) :=
  l4 l16 0
/-- ballast/res.made$1 -/
theorem c49 (a0 : (List (List Amount))) (g1 : Str → Option (Int × Int)) (gf1 : FuncId) (gc1 : List AV) (hc1 : List.map AV.cl0 gc1 = gc1) (hg1 : ∀ (y0 : Str) (r : (Int × Int)), g1 y0 = some r → Det Tryd.prog gf1 ((AV.str y0) :: List.map AV.cl gc1) (.ret (.tuple [AV.int r.1, AV.int r.2]))) (l16 : ((List Str)) → (Int × List Amount) → Option ((Res Unit) × (List Amount))) (l4 : (((List Str)) → (Int × List Amount) → Option ((Res Unit) × (List Amount))) → (Int) → Option ((Res Unit) × (List Amount))) (hl16 : ∀ (x15_1 : (List Str)), Rounds (F49.l16 x15_1 g1) (l16 x15_1)) (hl4 : ∀ (l16 : ((List Str)) → (Int × List Amount) → Option ((Res Unit) × (List Amount))), Rounds (F49.l4 a0 l16) (l4 l16)) (r : ((Res Unit) × (List Amount))) (h : F49 l16 l4 a0 g1 = some r) :
    DetX Tryd.prog 49 [.inp [AV.lst 1 (AV.lst 2 Amount.av) a0], .inp [.func gf1 gc1], .extp 0 0] [[.nils]] (Res.out 86 (fun q => .tuple []) r.1) [[AV.lst 2 Amount.av r.2]] := by
  refine DetX.of_le ?_
  refine @calls_of_body Tryd.prog 49 Tryd.f49 _ Tryd.func49 rfl (by kernel_rfl) [] (by rw [Tryd.results49]) 47 Tryd.ntmps49 _ _ _ (by simp only [List.length_cons, List.length_nil]; decide) ?_
  unfold F49 at h
  refine awp_seq fun N1 hN1 => ?_
  refine awp_seq fun N2 hN2 => ?_
  refine awp_reg kpNone [(1, AV.int (List.length a0 : Int))] [] [0, 1, 2, 9, 10, 11] (cs := [((AV.int (List.length a0 : Int) = .val (.int .i64 (List.length (List.map (AV.lst 2 Amount.av) a0) : Int))))]) (st' := ⟨47, [(0, .inp [AV.lst 1 (AV.lst 2 Amount.av) a0]), (1, .inp [.func gf1 gc1]), (2, .extp 0 0), (9, AV.lst 1 (AV.lst 2 Amount.av) a0), (10, AV.int (List.length a0 : Int)), (11, AV.int 0)], [], [[.nils]], []⟩) (by kernel_rfl) ⟨len_map _ _, trivial⟩ ?_
  refine hN2 _ ?_
  refine awp_block ?_
  refine awp_loop ?_
  refine awpL_le (st' := ⟨47, [(0, .inp [AV.lst 1 (AV.lst 2 Amount.av) a0]), (1, .inp [.func gf1 gc1]), (2, .extp 0 0), (9, AV.lst 1 (AV.lst 2 Amount.av) a0), (10, AV.int (List.length a0 : Int)), (11, AV.int 0)], [], [[.nils]], []⟩) ?_ ?_
  · exact Le.rfl'
  refine awpL_fix (hl4 l16) r (fun p4 => ⟨47, [(0, .inp [AV.lst 1 (AV.lst 2 Amount.av) a0]), (1, .inp [.func gf1 gc1]), (2, .extp 0 0), (9, AV.lst 1 (AV.lst 2 Amount.av) a0), (10, AV.int (List.length a0 : Int)), (11, AV.int p4)], [], [[.nils]], []⟩) (fun rec4 hrec4 p4 h => ?_) 0 h
  unfold F49.l4 at h
  refine awpL_round ?_
  refine awp_seq fun N5 hN5 => ?_
  refine awp_reg kpNone [] [] [0, 1, 2, 9, 10, 11, 12] (cs := []) (st' := ⟨47, [(0, .inp [AV.lst 1 (AV.lst 2 Amount.av) a0]), (1, .inp [.func gf1 gc1]), (2, .extp 0 0), (9, AV.lst 1 (AV.lst 2 Amount.av) a0), (10, AV.int (List.length a0 : Int)), (11, AV.int p4), (12, AV.bool (decide (p4 < (List.length a0 : Int))))], [], [[.nils]], []⟩) (by kernel_rfl) trivial ?_
  refine hN5 _ ?_
  refine awp_seq fun N7 hN7 => ?_
  refine awp_cond (t := decide (p4 < (List.length a0 : Int))) rfl (fun hb => ?_) (fun hb => ?_)
  · rw [if_pos hb] at h
    refine awp_skip ?_
    refine hN7 _ ?_
    refine awp_seq fun N8 hN8 => ?_
    refine awp_block ?_
    refine awp_seq fun N9 hN9 => ?_
    obtain ⟨x10_0, hx10_0, h⟩ := Option.bind_eq_some_iff.1 h
    refine awp_reg kpNone [(0, AV.lst 2 Amount.av x10_0)] [] [0, 1, 2, 4, 9, 10, 11] (cs := [(0 ≤ p4), ((List.map (AV.lst 2 Amount.av) a0)[Int.toNat p4]? = some (AV.lst 2 Amount.av x10_0))]) (st' := ⟨47, [(0, .inp [AV.lst 1 (AV.lst 2 Amount.av) a0]), (1, .inp [.func gf1 gc1]), (2, .extp 0 0), (4, AV.lst 2 Amount.av x10_0), (9, AV.lst 1 (AV.lst 2 Amount.av) a0), (10, AV.int (List.length a0 : Int)), (11, AV.int p4)], [], [[.nils]], []⟩) (by kernel_rfl) ⟨getI_le hx10_0, getI_map hx10_0 _, trivial⟩ ?_
    refine hN9 _ ?_
    obtain ⟨x11_1, hx11_1, h⟩ := Option.bind_eq_some_iff.1 h
    rcases thnX_some h with ⟨e, hx11_2, h⟩ | ⟨x11_2, hx11_2, h⟩
    · have h := Option.some.inj h; subst h
      refine awp_panT kpNone [(1, AV.int x11_1)] [] 2 (v := AV.iface 86 (.agg [AV.int e])) (cs := [(Det Tryd.prog 45 [AV.int x11_1] (.panic (AV.iface 86 (.agg [AV.int e])))), (Det Tryd.prog 50 [AV.lst 2 Amount.av x10_0] (.ret (AV.int x11_1)))]) (st' := ⟨47, [], [], [[.nils]], []⟩) (by kernel_rfl) ⟨c45 x11_1 (.stop e) hx11_2, d50 x10_0 _ hx11_1, trivial⟩ ?_
      exact ⟨(Lw.refl _), ⟨⟨(Lw.nils _), trivial⟩, trivial⟩⟩
    refine awp_reg kpNone [(1, AV.int x11_1), (2, .tuple [])] [] [0, 1, 2, 9, 10, 11] (cs := [(Det Tryd.prog 50 [AV.lst 2 Amount.av x10_0] (.ret (AV.int x11_1))), (Det Tryd.prog 45 [AV.int x11_1] (.ret (.tuple [])))]) (st' := ⟨47, [(0, .inp [AV.lst 1 (AV.lst 2 Amount.av) a0]), (1, .inp [.func gf1 gc1]), (2, .extp 0 0), (9, AV.lst 1 (AV.lst 2 Amount.av) a0), (10, AV.int (List.length a0 : Int)), (11, AV.int p4)], [], [[.nils]], []⟩) (by kernel_rfl) ⟨d50 x10_0 _ hx11_1, c45 x11_1 (.ret x11_2) hx11_2, trivial⟩ ?_
    refine hN8 _ ?_
    refine awp_reg kpNone [] [] [0, 1, 2, 9, 10, 11] (cs := []) (st' := ⟨47, [(0, .inp [AV.lst 1 (AV.lst 2 Amount.av) a0]), (1, .inp [.func gf1 gc1]), (2, .extp 0 0), (9, AV.lst 1 (AV.lst 2 Amount.av) a0), (10, AV.int (List.length a0 : Int)), (11, AV.int (w64 (p4 + (1 : Int))))], [], [[.nils]], []⟩) (by kernel_rfl) trivial ?_
    refine awpL_le ?_ (hrec4 _ h)
    exact Le.rfl'
  · rw [if_false hb] at h
    refine awp_exit ?_
    refine hN1 _ ?_
    refine awp_seq fun N13 hN13 => ?_
    refine awp_seq fun N14 hN14 => ?_
    obtain ⟨x15_1, hx15_1, h⟩ := Option.bind_eq_some_iff.1 h
    refine awp_reg kpNone [(1, AV.lst 1 AV.str x15_1), (2, AV.int (List.length x15_1 : Int))] [] [1, 2, 20, 21, 22] (cs := [(Det Tryd.prog 51 [AV.lst 1 (AV.lst 2 Amount.av) a0] (.ret (AV.lst 1 AV.str x15_1))), ((AV.int (List.length x15_1 : Int) = .val (.int .i64 (List.length (List.map AV.str x15_1) : Int))))]) (st' := ⟨47, [(1, .inp [.func gf1 gc1]), (2, .extp 0 0), (20, AV.lst 1 AV.str x15_1), (21, AV.int (List.length x15_1 : Int)), (22, AV.int 0)], [], [[.nils]], []⟩) (by kernel_rfl) ⟨d51 a0 _ hx15_1, len_map _ _, trivial⟩ ?_
    refine hN14 _ ?_
    refine awp_block ?_
    refine awp_loop ?_
    refine awpL_le (st' := ⟨47, [(1, .inp [.func gf1 gc1]), (2, .extp 0 0), (20, AV.lst 1 AV.str x15_1), (21, AV.int (List.length x15_1 : Int)), (22, AV.int 0)], [], [[.slice (.own 41) 2 (List.map Amount.av ([] : List Amount))]], [(41, (54, 2, List.length (List.map Amount.av ([] : List Amount))))]⟩) ?_ ?_
    · exact Le.mk rfl ⟨rfl, rfl, .inl rfl, rfl, rfl, trivial⟩ trivial ⟨⟨rfl, by decide⟩, trivial⟩ ⟨⟨.inr ⟨rfl, rfl, rfl⟩, trivial⟩, trivial⟩
    refine awpL_fix (hl16 x15_1) r (fun p16 => ⟨47, [(1, .inp [.func gf1 gc1]), (2, .extp 0 0), (20, AV.lst 1 AV.str x15_1), (21, AV.int (List.length x15_1 : Int)), (22, AV.int p16.1)], [], [[.slice (.own 41) 2 (List.map Amount.av p16.2)]], [(41, (54, 2, List.length (List.map Amount.av p16.2)))]⟩) (fun rec16 hrec16 p16 h => ?_) (0, ([] : List Amount)) h
    unfold F49.l16 at h
    refine awpL_round ?_
    refine awp_seq fun N17 hN17 => ?_
    refine awp_reg kpNone [] [] [1, 2, 20, 21, 22, 23] (cs := []) (st' := ⟨47, [(1, .inp [.func gf1 gc1]), (2, .extp 0 0), (20, AV.lst 1 AV.str x15_1), (21, AV.int (List.length x15_1 : Int)), (22, AV.int p16.1), (23, AV.bool (decide (p16.1 < (List.length x15_1 : Int))))], [], [[.slice (.own 41) 2 (List.map Amount.av p16.2)]], [(41, (54, 2, List.length (List.map Amount.av p16.2)))]⟩) (by kernel_rfl) trivial ?_
    refine hN17 _ ?_
    refine awp_seq fun N19 hN19 => ?_
    refine awp_cond (t := decide (p16.1 < (List.length x15_1 : Int))) rfl (fun hb => ?_) (fun hb => ?_)
    · rw [if_pos hb] at h
      refine awp_skip ?_
      refine hN19 _ ?_
      refine awp_seq fun N20 hN20 => ?_
      refine awp_block ?_
      refine awp_seq fun N21 hN21 => ?_
      obtain ⟨x22_0, hx22_0, h⟩ := Option.bind_eq_some_iff.1 h
      refine awp_reg kpNone [(0, AV.str x22_0)] [] [1, 2, 6, 20, 21, 22] (cs := [(0 ≤ p16.1), ((List.map AV.str x15_1)[Int.toNat p16.1]? = some (AV.str x22_0))]) (st' := ⟨47, [(1, .inp [.func gf1 gc1]), (2, .extp 0 0), (6, AV.str x22_0), (20, AV.lst 1 AV.str x15_1), (21, AV.int (List.length x15_1 : Int)), (22, AV.int p16.1)], [], [[.slice (.own 41) 2 (List.map Amount.av p16.2)]], [(41, (54, 2, List.length (List.map Amount.av p16.2)))]⟩) (by kernel_rfl) ⟨getI_le hx22_0, getI_map hx22_0 _, trivial⟩ ?_
      refine hN21 _ ?_
      refine awp_seq fun N23 hN23 => ?_
      obtain ⟨x24_2, hx24_2, h⟩ := Option.bind_eq_some_iff.1 h
      refine awp_reg kpNone [(2, .tuple [AV.int x24_2.1, AV.int x24_2.2])] [] [1, 2, 6, 7, 8, 20, 21, 22] (cs := [(Det Tryd.prog gf1 ((AV.str x22_0) :: List.map AV.cl gc1) (.ret (.tuple [AV.int x24_2.1, AV.int x24_2.2])))]) (st' := ⟨47, [(1, .inp [.func gf1 gc1]), (2, .extp 0 0), (6, AV.str x22_0), (7, AV.int x24_2.1), (8, AV.int x24_2.2), (20, AV.lst 1 AV.str x15_1), (21, AV.int (List.length x15_1 : Int)), (22, AV.int p16.1)], [], [[.slice (.own 41) 2 (List.map Amount.av p16.2)]], [(41, (54, 2, List.length (List.map Amount.av p16.2)))]⟩) (by kernel_rfl) ⟨hg1 x22_0 _ hx24_2, trivial⟩ ?_
      refine hN23 _ ?_
      refine awp_seq fun N25 hN25 => ?_
      rcases thnX_some h with ⟨e, hx26_1, h⟩ | ⟨x26_1, hx26_1, h⟩
      · have h := Option.some.inj h; subst h
        refine awp_panT kpNone [] [] 1 (v := AV.iface 86 (.agg [AV.int e])) (cs := [(Det Tryd.prog 45 [AV.int x24_2.2] (.panic (AV.iface 86 (.agg [AV.int e]))))]) (st' := ⟨47, [], [], [[.slice (.own 41) 2 (List.map Amount.av p16.2)]], [(41, (54, 2, List.length (List.map Amount.av p16.2)))]⟩) (by kernel_rfl) ⟨c45 x24_2.2 (.stop e) hx26_1, trivial⟩ ?_
        exact ⟨(Lw.refl _), ⟨⟨(Lw.refl _), trivial⟩, trivial⟩⟩
      refine awp_reg kpNone [(1, .tuple [])] [] [1, 2, 6, 7, 20, 21, 22] (cs := [(Det Tryd.prog 45 [AV.int x24_2.2] (.ret (.tuple [])))]) (st' := ⟨47, [(1, .inp [.func gf1 gc1]), (2, .extp 0 0), (6, AV.str x22_0), (7, AV.int x24_2.1), (20, AV.lst 1 AV.str x15_1), (21, AV.int (List.length x15_1 : Int)), (22, AV.int p16.1)], [], [[.slice (.own 41) 2 (List.map Amount.av p16.2)]], [(41, (54, 2, List.length (List.map Amount.av p16.2)))]⟩) (by kernel_rfl) ⟨c45 x24_2.2 (.ret x26_1) hx26_1, trivial⟩ ?_
      refine hN25 _ ?_
      refine awp_seq fun N27 hN27 => ?_
      refine awp_reg kpNone [] [] [1, 2, 6, 7, 20, 21, 22, 35] (cs := []) (st' := ⟨47, [(1, .inp [.func gf1 gc1]), (2, .extp 0 0), (6, AV.str x22_0), (7, AV.int x24_2.1), (20, AV.lst 1 AV.str x15_1), (21, AV.int (List.length x15_1 : Int)), (22, AV.int p16.1), (35, AV.bool (decide ((0 : Int) < x24_2.1)))], [], [[.slice (.own 41) 2 (List.map Amount.av p16.2)]], [(41, (54, 2, List.length (List.map Amount.av p16.2)))]⟩) (by kernel_rfl) trivial ?_
      refine hN27 _ ?_
      refine awp_to (σ := List Amount) (fun p29 => ⟨47, [(1, .inp [.func gf1 gc1]), (2, .extp 0 0), (20, AV.lst 1 AV.str x15_1), (21, AV.int (List.length x15_1 : Int)), (22, AV.int p16.1)], [], [[.slice (.own 41) 2 (List.map Amount.av p29)]], [(41, (54, 2, List.length (List.map Amount.av p29)))]⟩) (fun p29 => F49.j29 rec16 p16 p29 = some r) (fun p29 h => ?_) (fun N29 hJ29 => ?_)
      · unfold F49.j29 at h
        refine hN20 _ ?_
        refine awp_reg kpNone [] [] [1, 2, 20, 21, 22] (cs := []) (st' := ⟨47, [(1, .inp [.func gf1 gc1]), (2, .extp 0 0), (20, AV.lst 1 AV.str x15_1), (21, AV.int (List.length x15_1 : Int)), (22, AV.int (w64 (p16.1 + (1 : Int))))], [], [[.slice (.own 41) 2 (List.map Amount.av p29)]], [(41, (54, 2, List.length (List.map Amount.av p29)))]⟩) (by kernel_rfl) trivial ?_
        refine awpL_le ?_ (hrec16 _ h)
        exact Le.rfl'
      · refine awp_cond (t := decide ((0 : Int) < x24_2.1)) rfl (fun hb => ?_) (fun hb => ?_)
        · rw [if_pos hb] at h
          obtain ⟨hp31_5, h⟩ := guardP h
          refine awp_reg kpNone [(5, AV.lst 2 Amount.av (p16.2 ++ [(⟨x22_0, x24_2.1⟩ : Amount)]))] [] [1, 2, 20, 21, 22] (cs := [(List.length (List.map Amount.av p16.2) = List.length (List.map Amount.av p16.2)), (List.length (List.map Amount.av (p16.2 ++ [(⟨x22_0, x24_2.1⟩ : Amount)])) * 24 ≤ 140737488355328), (List.length (List.map Amount.av (p16.2 ++ [(⟨x22_0, x24_2.1⟩ : Amount)])) ≤ 140737488355328), (List.map Amount.av p16.2 ++ List.map Amount.av [(⟨x22_0, x24_2.1⟩ : Amount)] = List.map Amount.av (p16.2 ++ [(⟨x22_0, x24_2.1⟩ : Amount)]))]) (st' := ⟨47, [(1, .inp [.func gf1 gc1]), (2, .extp 0 0), (20, AV.lst 1 AV.str x15_1), (21, AV.int (List.length x15_1 : Int)), (22, AV.int p16.1)], [], [[.slice (.own 41) 2 (List.map Amount.av (p16.2 ++ [(⟨x22_0, x24_2.1⟩ : Amount)]))]], [(41, (54, 2, List.length (List.map Amount.av (p16.2 ++ [(⟨x22_0, x24_2.1⟩ : Amount)])))), (40, (54, 2, 1))]⟩) (by kernel_rfl) ⟨by simp only [List.length_map, List.length_cons, List.length_nil], len_mul _ _ _ _ hp31_5.1, len_ge _ _ hp31_5.2, lst_app _ _ _, trivial⟩ ?_
          exact hJ29 (p16.2 ++ [(⟨x22_0, x24_2.1⟩ : Amount)]) _ h (Le.mk rfl ⟨rfl, rfl, .inl rfl, rfl, rfl, trivial⟩ trivial ⟨rfl, trivial⟩ ⟨⟨.inl ⟨rfl, rfl⟩, trivial⟩, trivial⟩)
        · rw [if_false hb] at h
          refine awp_skip ?_
          exact hJ29 p16.2 _ h (Le.mk rfl ⟨rfl, rfl, .inl rfl, rfl, rfl, trivial⟩ trivial ⟨rfl, trivial⟩ ⟨⟨.inl ⟨rfl, rfl⟩, trivial⟩, trivial⟩)
    · rw [if_false hb] at h
      refine awp_exit ?_
      refine hN13 _ ?_
      refine awp_seq fun N32 hN32 => ?_
      refine awp_reg kpNone [(1, AV.int (List.length p16.2 : Int))] [] [45] (cs := [((AV.int (List.length p16.2 : Int) = .val (.int .i64 (List.length (List.map Amount.av p16.2) : Int))))]) (st' := ⟨47, [(45, AV.bool (decide ((8 : Int) < (List.length p16.2 : Int))))], [], [[.slice (.own 41) 2 (List.map Amount.av p16.2)]], [(41, (54, 2, List.length (List.map Amount.av p16.2)))]⟩) (by kernel_rfl) ⟨len_map _ _, trivial⟩ ?_
      refine hN32 _ ?_
      refine awp_to (σ := Unit) (fun p34 => ⟨47, [], [], [[.slice (.own 41) 2 (List.map Amount.av p16.2)]], [(41, (54, 2, List.length (List.map Amount.av p16.2)))]⟩) (fun p34 => F49.j34 p16 p34 = some r) (fun p34 h => ?_) (fun N34 hJ34 => ?_)
      · unfold F49.j34 at h
        have h := Option.some.inj h
        subst h
        try simp only [thenA, blockA, eq_self, if_true]
        exact (show endQ _ _ _ .normal _ from ⟨[], by kernel_rfl, ⟨(Lw.refl _), ⟨⟨(Lw.refl _), trivial⟩, trivial⟩⟩⟩)
      · refine awp_cond (t := decide ((8 : Int) < (List.length p16.2 : Int))) rfl (fun hb => ?_) (fun hb => ?_)
        · rw [if_pos hb] at h
          rcases thnX_some h with ⟨e, hx35_0, h⟩ | ⟨x35_0, hx35_0, h⟩
          · have h := Option.some.inj h; subst h
            refine awp_panT kpNone [] [] 0 (v := AV.iface 86 (.agg [AV.int e])) (cs := [(Det Tryd.prog 45 [AV.int 4] (.panic (AV.iface 86 (.agg [AV.int e]))))]) (st' := ⟨47, [], [], [[.slice (.own 41) 2 (List.map Amount.av p16.2)]], [(41, (54, 2, List.length (List.map Amount.av p16.2)))]⟩) (by kernel_rfl) ⟨c45 4 (.stop e) hx35_0, trivial⟩ ?_
            exact ⟨(Lw.refl _), ⟨⟨(Lw.refl _), trivial⟩, trivial⟩⟩
          refine awp_reg kpNone [(0, .tuple [])] [] [] (cs := [(Det Tryd.prog 45 [AV.int 4] (.ret (.tuple [])))]) (st' := ⟨47, [], [], [[.slice (.own 41) 2 (List.map Amount.av p16.2)]], [(41, (54, 2, List.length (List.map Amount.av p16.2)))]⟩) (by kernel_rfl) ⟨c45 4 (.ret x35_0) hx35_0, trivial⟩ ?_
          exact hJ34 () _ h (Le.rfl')
        · rw [if_false hb] at h
          refine awp_skip ?_
          exact hJ34 () _ h (Le.mk rfl trivial trivial ⟨rfl, trivial⟩ ⟨⟨.inl ⟨rfl, rfl⟩, trivial⟩, trivial⟩)
def A49.l16 (a0 : (List (List Amount))) (g1 : Str → Option (Int × Int)) (x15_1 : (List Str)) : (Int × List Amount) → Option ((Res Unit) × (List Amount)) := iterL (F49.l16 x15_1 g1) 4096
def A49.l4 (a0 : (List (List Amount))) (g1 : Str → Option (Int × Int)) (l16 : ((List Str)) → (Int × List Amount) → Option ((Res Unit) × (List Amount))) : (Int) → Option ((Res Unit) × (List Amount)) := iterL (F49.l4 a0 l16) 4096
def A49 (a0 : (List (List Amount))) (g1 : Str → Option (Int × Int)) : Option ((Res Unit) × (List Amount)) := F49 (A49.l16 a0 g1) (A49.l4 a0 g1) a0 g1
theorem d49 (a0 : (List (List Amount))) (g1 : Str → Option (Int × Int)) (gf1 : FuncId) (gc1 : List AV) (hc1 : List.map AV.cl0 gc1 = gc1) (hg1 : ∀ (y0 : Str) (r : (Int × Int)), g1 y0 = some r → Det Tryd.prog gf1 ((AV.str y0) :: List.map AV.cl gc1) (.ret (.tuple [AV.int r.1, AV.int r.2]))) (r : ((Res Unit) × (List Amount))) (h : A49 a0 g1 = some r) :
    DetX Tryd.prog 49 [.inp [AV.lst 1 (AV.lst 2 Amount.av) a0], .inp [.func gf1 gc1], .extp 0 0] [[.nils]] (Res.out 86 (fun q => .tuple []) r.1) [[AV.lst 2 Amount.av r.2]] := by
  exact c49 a0 g1 gf1 gc1 hc1 hg1 (A49.l16 a0 g1) (A49.l4 a0 g1) (fun _ => rounds_iter _ _) (fun _ => rounds_iter _ _) r h


-- res.made
def F46 (g0 : Str → Option (Int × Int)) (a1 : (List (List Amount))) : Option ((List Amount) × Int) :=
  (A49 a1 g0).bind fun x6_1 => if decide (¬ (tryCode x6_1.1) = (0 : Int)) = true then (some (([] : (List Amount)), tryCode x6_1.1)) else (some (x6_1.2, 0))
/-- ballast/res.made -/
theorem c46 (g0 : Str → Option (Int × Int)) (gf0 : FuncId) (u0_0 u0_1 : List AV) (hg0 : ∀ (y0 : Str) (r : (Int × Int)), g0 y0 = some r → Det Tryd.prog gf0 ((AV.str y0) :: List.map AV.cl [.inp u0_0, .inp u0_1]) (.ret (.tuple [AV.int r.1, AV.int r.2]))) (a1 : (List (List Amount))) (r : ((List Amount) × Int)) (h : F46 g0 a1 = some r) :
    Det Tryd.prog 46 [.func gf0 [.inp u0_0, .inp u0_1], AV.lst 1 (AV.lst 2 Amount.av) a1] (.ret (.tuple [AV.lst 2 Amount.av r.1, AV.int r.2])) := by
  refine Det.of_le ?_
  refine @calls_of_body Tryd.prog 46 Tryd.f46 _ Tryd.func46 rfl (by kernel_rfl) [.tmp 4, .tmp 5] (by rw [Tryd.results46]) 14 Tryd.ntmps46 _ _ _ (by simp only [List.length_cons, List.length_nil]; decide) ?_
  unfold F46 at h
  refine awp_seq fun N1 hN1 => ?_
  refine awp_reg (fun i => i == 6) [] [] [2, 3] (cs := []) (st' := ⟨14, [(2, .varp 2 0), (3, .varp 3 0)], [(3, (false, [AV.lst 1 (AV.lst 2 Amount.av) a1])), (2, (false, [.func gf0 [.inp u0_0, .inp u0_1]]))], [], []⟩) (by kernel_rfl) trivial ?_
  refine hN1 _ ?_
  refine awp_seq fun N3 hN3 => ?_
  refine awp_reg (fun i => i == 6) [] [] [2, 3, 6] (cs := []) (st' := ⟨14, [(2, .varp 2 0), (3, .varp 3 0), (6, .varp 6 0)], [(6, (false, [.nils])), (3, (false, [AV.lst 1 (AV.lst 2 Amount.av) a1])), (2, (false, [.func gf0 [.inp u0_0, .inp u0_1]]))], [], []⟩) (by kernel_rfl) trivial ?_
  refine hN3 _ ?_
  refine awp_seq fun N5 hN5 => ?_
  obtain ⟨x6_1, hx6_1, h⟩ := Option.bind_eq_some_iff.1 h
  refine awp_regX (fun i => i == 6) [] [] [6, 7] 1 [6] [[AV.lst 2 Amount.av x6_1.2]] (AV.int (tryCode x6_1.1)) (by decide) (cs := [(DetX Tryd.prog 40 [.func 49 [.inp [AV.lst 1 (AV.lst 2 Amount.av) a1], .inp [.func gf0 [.inp u0_0, .inp u0_1]], .extp 0 0]] [[.nils]] (.ret (AV.int (tryCode x6_1.1))) [[AV.lst 2 Amount.av x6_1.2]])]) (st' := ⟨14, [(6, .varp 6 0), (7, AV.int (tryCode x6_1.1))], [(6, (false, [AV.lst 2 Amount.av x6_1.2])), (2, (true, [.func gf0 [.inp u0_0, .inp u0_1]])), (3, (true, [AV.lst 1 (AV.lst 2 Amount.av) a1]))], [], []⟩) (by kernel_rfl) ⟨try_any (d49 a1 g0 gf0 [.inp u0_0, .inp u0_1] rfl hg0 x6_1 hx6_1), trivial⟩ ?_
  refine hN5 _ ?_
  refine awp_seq fun N7 hN7 => ?_
  refine awp_seq fun N8 hN8 => ?_
  refine awp_reg (fun i => i == 6) [] [] [6, 7, 11] (cs := []) (st' := ⟨14, [(6, .varp 6 0), (7, AV.int (tryCode x6_1.1)), (11, AV.bool (decide (¬ (tryCode x6_1.1) = (0 : Int))))], [(6, (false, [AV.lst 2 Amount.av x6_1.2])), (2, (true, [.func gf0 [.inp u0_0, .inp u0_1]])), (3, (true, [AV.lst 1 (AV.lst 2 Amount.av) a1]))], [], []⟩) (by kernel_rfl) trivial ?_
  refine hN8 _ ?_
  refine awp_cond (t := decide (¬ (tryCode x6_1.1) = (0 : Int))) rfl (fun hb => ?_) (fun hb => ?_)
  · rw [if_pos hb] at h
    refine awp_seq fun N10 hN10 => ?_
    refine awp_reg (fun i => i == 6) [] [] [4, 5] (cs := []) (st' := ⟨14, [(4, .nils), (5, AV.int (tryCode x6_1.1))], [(6, (false, [AV.lst 2 Amount.av x6_1.2])), (2, (true, [.func gf0 [.inp u0_0, .inp u0_1]])), (3, (true, [AV.lst 1 (AV.lst 2 Amount.av) a1]))], [], []⟩) (by kernel_rfl) trivial ?_
    refine hN10 _ ?_
    have h := Option.some.inj h
    subst h
    exact awp_ret ⟨[.nils, AV.int (tryCode x6_1.1)], by kernel_rfl, Lw.tupleL ⟨(Lw.nils _), (Lw.refl _), trivial⟩⟩
  · rw [if_false hb] at h
    refine awp_skip ?_
    refine hN7 _ ?_
    refine awp_seq fun N12 hN12 => ?_
    refine awp_reg (fun i => i == 6) [] [] [4, 5] (cs := []) (st' := ⟨14, [(4, AV.lst 2 Amount.av x6_1.2), (5, AV.int 0)], [(6, (false, [AV.lst 2 Amount.av x6_1.2])), (2, (true, [.func gf0 [.inp u0_0, .inp u0_1]])), (3, (true, [AV.lst 1 (AV.lst 2 Amount.av) a1]))], [], []⟩) (by kernel_rfl) trivial ?_
    refine hN12 _ ?_
    have h := Option.some.inj h
    subst h
    exact awp_ret ⟨[AV.lst 2 Amount.av x6_1.2, AV.int 0], by kernel_rfl, Lw.refl _⟩


-- res.Add
def F43 (a0 : (List Amount)) (a1 : (List Amount)) : Option ((List Amount) × Int) :=
  (F46 (fun y0 => F47 y0 a0 a1) [a0, a1]).bind fun x4_4 => some (x4_4.1, x4_4.2)
/-- ballast/res.Add -/
theorem c43 (a0 : (List Amount)) (a1 : (List Amount)) (r : ((List Amount) × Int)) (h : F43 a0 a1 = some r) :
    Det Tryd.prog 43 [AV.lst 2 Amount.av a0, AV.lst 2 Amount.av a1] (.ret (.tuple [AV.lst 2 Amount.av r.1, AV.int r.2])) := by
  refine Det.of_le ?_
  refine @calls_of_body Tryd.prog 43 Tryd.f43 _ Tryd.func43 rfl (by kernel_rfl) [.tmp 4, .tmp 5] (by rw [Tryd.results43]) 13 Tryd.ntmps43 _ _ _ (by simp only [List.length_cons, List.length_nil]; decide) ?_
  unfold F43 at h
  refine awp_seq fun N1 hN1 => ?_
  refine awp_reg kpNone [] [] [2, 3] (cs := []) (st' := ⟨13, [(2, .varp 2 0), (3, .varp 3 0)], [(3, (false, [AV.lst 2 Amount.av a1])), (2, (false, [AV.lst 2 Amount.av a0]))], [], []⟩) (by kernel_rfl) trivial ?_
  refine hN1 _ ?_
  refine awp_seq fun N3 hN3 => ?_
  obtain ⟨x4_4, hx4_4, h⟩ := Option.bind_eq_some_iff.1 h
  refine awp_reg kpNone [(4, .tuple [AV.lst 2 Amount.av x4_4.1, AV.int x4_4.2])] [] [4, 5] (cs := [(Det Tryd.prog 46 [.func 47 [.inp [AV.lst 2 Amount.av a0], .inp [AV.lst 2 Amount.av a1]], AV.lst 1 (AV.lst 2 Amount.av) [a0, a1]] (.ret (.tuple [AV.lst 2 Amount.av x4_4.1, AV.int x4_4.2])))]) (st' := ⟨13, [(4, AV.lst 2 Amount.av x4_4.1), (5, AV.int x4_4.2)], [(3, (true, [AV.lst 2 Amount.av a1])), (2, (true, [AV.lst 2 Amount.av a0]))], [], [(9, (29, 1, 2))]⟩) (by kernel_rfl) ⟨c46 (fun y0 => F47 y0 a0 a1) 47 [AV.lst 2 Amount.av a0] [AV.lst 2 Amount.av a1] (fun y0 _ hy => c47 y0 a0 a1 _ hy) [a0, a1] _ hx4_4, trivial⟩ ?_
  refine hN3 _ ?_
  have h := Option.some.inj h
  subst h
  exact awp_ret ⟨[AV.lst 2 Amount.av x4_4.1, AV.int x4_4.2], by kernel_rfl, Lw.refl _⟩


-- node.Take[res.Vec]
def F42 (a0 : (List Amount)) (a1 : Int) : Option (Res (List Amount)) :=
  thn (F45 a1) fun x4_1 => some (.ret a0)
/-- ballast/node.Take[ballast/res.Vec] -/
theorem c42 (a0 : (List Amount)) (a1 : Int) (r : (Res (List Amount))) (h : F42 a0 a1 = some r) :
    Det Tryd.prog 42 [AV.lst 2 Amount.av a0, AV.int a1] (Res.out 86 (fun r => AV.lst 2 Amount.av r) r) := by
  refine Det.of_le ?_
  refine @calls_of_body Tryd.prog 42 Tryd.f42 _ Tryd.func42 rfl (by kernel_rfl) [.tmp 4] (by rw [Tryd.results42]) 8 Tryd.ntmps42 _ _ _ (by simp only [List.length_cons, List.length_nil]; decide) ?_
  unfold F42 at h
  refine awp_seq fun N1 hN1 => ?_
  refine awp_reg kpNone [] [] [0, 1] (cs := []) (st' := ⟨8, [(0, AV.lst 2 Amount.av a0), (1, AV.int a1)], [], [], []⟩) (by kernel_rfl) trivial ?_
  refine hN1 _ ?_
  refine awp_seq fun N3 hN3 => ?_
  rcases thn_some h with ⟨e, hx4_1, hr⟩ | ⟨x4_1, hx4_1, h⟩
  · subst hr
    refine awp_panT kpNone [] [] 1 (v := AV.iface 86 (.agg [AV.int e])) (cs := [(Det Tryd.prog 45 [AV.int a1] (.panic (AV.iface 86 (.agg [AV.int e]))))]) (st' := ⟨8, [], [], [], []⟩) (by kernel_rfl) ⟨c45 a1 (.stop e) hx4_1, trivial⟩ ?_
    exact Lw.refl _
  refine awp_reg kpNone [(1, .tuple [])] [] [0] (cs := [(Det Tryd.prog 45 [AV.int a1] (.ret (.tuple [])))]) (st' := ⟨8, [(0, AV.lst 2 Amount.av a0)], [], [], []⟩) (by kernel_rfl) ⟨c45 a1 (.ret x4_1) hx4_1, trivial⟩ ?_
  refine hN3 _ ?_
  refine awp_seq fun N5 hN5 => ?_
  refine awp_reg kpNone [] [] [4] (cs := []) (st' := ⟨8, [(4, AV.lst 2 Amount.av a0)], [], [], []⟩) (by kernel_rfl) trivial ?_
  refine hN5 _ ?_
  have h := Option.some.inj h
  subst h
  exact awp_ret ⟨[AV.lst 2 Amount.av a0], by kernel_rfl, Lw.refl _⟩


end Go.Proofs.Eng
