/- Printed walks and contracts. -/
import Derived.Test.YtdolhcmhdjmoeaaGreatDoorStrT2
set_option linter.unusedSimpArgs false
set_option linter.unusedVariables false
set_option maxRecDepth 100000
namespace Go.Proofs.Eng
open Go Go.Proofs Go.Sort
-- res.Add$1
def F175 (a0 : Str) (a1 : (List Amount)) (a2 : (List Amount)) : Option (Int × Int) :=
  (F78 a1 a0).bind fun x4_2 => (F78 a2 a0).bind fun x4_5 => (F176 x4_2 x4_5).bind fun x4_6 => some (x4_6.1, x4_6.2)
/-- ballast/res.Add$1 -/
theorem c175 (a0 : Str) (a1 : (List Amount)) (a2 : (List Amount)) (r : (Int × Int)) (h : F175 a0 a1 a2 = some r) :
    Det Tryz.prog 175 [AV.str a0, .inp [AV.lst 2 Amount.av a1], .inp [AV.lst 2 Amount.av a2]] (.ret (.tuple [AV.int r.1, AV.int r.2])) := by
  refine Det.of_le ?_
  refine @calls_of_body Tryz.prog 175 Tryz.f175 _ Tryz.func175 rfl (by kernel_rfl) [.tmp 4, .tmp 5] (by rw [Tryz.results175]) 15 Tryz.ntmps175 _ _ _ (by simp only [List.length_cons, List.length_nil]; decide) ?_
  unfold F175 at h
  refine awp_sr kpNone [] [] [0, 1, 2] (cs := []) (st' := ⟨15, [(0, AV.str a0), (1, .inp [AV.lst 2 Amount.av a1]), (2, .inp [AV.lst 2 Amount.av a2])], [], [], []⟩) (by kernel_rfl) trivial ?_
  refine awp_seq fun N3 hN3 => ?_
  obtain ⟨x4_2, hx4_2, h⟩ := Option.bind_eq_some_iff.1 h
  obtain ⟨x4_5, hx4_5, h⟩ := Option.bind_eq_some_iff.1 h
  obtain ⟨x4_6, hx4_6, h⟩ := Option.bind_eq_some_iff.1 h
  refine awp_regD mixedTryz kpNone [(2, AV.int x4_2), (5, AV.int x4_5), (6, .tuple [AV.int x4_6.1, AV.int x4_6.2])] [] [4, 5] (by kernel_rfl) (cs := [(Det Tryz.prog 78 [AV.lst 2 Amount.av a1, AV.str a0] (.ret (AV.int x4_2))), (Det Tryz.prog 78 [AV.lst 2 Amount.av a2, AV.str a0] (.ret (AV.int x4_5))), (Det Tryz.prog 176 [AV.int x4_2, AV.int x4_5] (.ret (.tuple [AV.int x4_6.1, AV.int x4_6.2])))]) (st' := ⟨15, [(4, AV.int x4_6.1), (5, AV.int x4_6.2)], [], [], []⟩) (by kernel_rfl) ⟨c78 a1 a0 _ hx4_2, c78 a2 a0 _ hx4_5, c176 x4_2 x4_5 _ hx4_6, trivial⟩ ?_
  refine hN3 _ ?_
  have h := Option.some.inj h
  subst h
  exact awp_ret ⟨[AV.int x4_6.1, AV.int x4_6.2], by kernel_rfl, Lw.refl _⟩


-- strings.Trim

-- alone
-- {"kind": "opt", "S": "trimO", "thm": "d305"}
def lay160_ren : Go.Shelf.Ren := ⟨fun | 119 => 363 | 120 => 358 | 137 => 362 | 151 => 344 | 152 => 357 | 160 => 305 | 197 => 327 | 217 => 347 | 224 => 349 | 225 => 348 | 227 => 321 | 228 => 343 | 231 => 319 | 232 => 320 | 233 => 322 | 234 => 323 | 235 => 324 | 236 => 325 | 260 => 346 | 266 => 359 | 271 => 345 | n => n, fun | 0 => 0 | 3 => 3 | 4 => 4 | 5 => 5 | 9 => 9 | 21 => 21 | 46 => 316 | 105 => 371 | 116 => 365 | 117 => 366 | 119 => 396 | 124 => 369 | 138 => 398 | 139 => 399 | n => n, fun | 3 => 2 | 4 => 3 | n => n⟩
theorem lay160 : Lays.n160 Tryz.prog lay160_ren := {
  mixed := by kernel_rfl,
  f119 := Tryz.func363.trans (congrArg some (by kernel_rfl)),
  f120 := Tryz.func358.trans (congrArg some (by kernel_rfl)),
  f137 := Tryz.func362.trans (congrArg some (by kernel_rfl)),
  f151 := Tryz.func344.trans (congrArg some (by kernel_rfl)),
  f152 := Tryz.func357.trans (congrArg some (by kernel_rfl)),
  f160 := Tryz.func305.trans (congrArg some (by kernel_rfl)),
  f197 := Tryz.func327.trans (congrArg some (by kernel_rfl)),
  f217 := Tryz.func347.trans (congrArg some (by kernel_rfl)),
  f224 := Tryz.func349.trans (congrArg some (by kernel_rfl)),
  f225 := Tryz.func348.trans (congrArg some (by kernel_rfl)),
  f227 := Tryz.func321.trans (congrArg some (by kernel_rfl)),
  f228 := Tryz.func343.trans (congrArg some (by kernel_rfl)),
  f231 := Tryz.func319.trans (congrArg some (by kernel_rfl)),
  f232 := Tryz.func320.trans (congrArg some (by kernel_rfl)),
  f233 := Tryz.func322.trans (congrArg some (by kernel_rfl)),
  f234 := Tryz.func323.trans (congrArg some (by kernel_rfl)),
  f235 := Tryz.func324.trans (congrArg some (by kernel_rfl)),
  f236 := Tryz.func325.trans (congrArg some (by kernel_rfl)),
  f260 := Tryz.func346.trans (congrArg some (by kernel_rfl)),
  f266 := Tryz.func359.trans (congrArg some (by kernel_rfl)),
  f271 := Tryz.func345.trans (congrArg some (by kernel_rfl)),
  t0 := Tryz.underlying0,
  a0 := Tryz.isAgg0,
  z0 := Tryz.sizeOf0,
  v0 := Tryz.zeroValue0,
  t3 := Tryz.underlying3,
  a3 := Tryz.isAgg3,
  z3 := Tryz.sizeOf3,
  v3 := Tryz.zeroValue3,
  t4 := Tryz.underlying4,
  a4 := Tryz.isAgg4,
  z4 := Tryz.sizeOf4,
  v4 := Tryz.zeroValue4,
  t5 := Tryz.underlying5,
  a5 := Tryz.isAgg5,
  z5 := Tryz.sizeOf5,
  v5 := Tryz.zeroValue5,
  t9 := Tryz.underlying9,
  a9 := Tryz.isAgg9,
  z9 := Tryz.sizeOf9,
  v9 := Tryz.zeroValue9,
  t21 := Tryz.underlying21,
  a21 := Tryz.isAgg21,
  z21 := Tryz.sizeOf21,
  v21 := Tryz.zeroValue21,
  t46 := Tryz.underlying316,
  a46 := Tryz.isAgg316,
  z46 := Tryz.sizeOf316,
  v46 := Tryz.zeroValue316,
  t105 := Tryz.underlying371,
  a105 := Tryz.isAgg371,
  z105 := Tryz.sizeOf371,
  v105 := Tryz.zeroValue371,
  t116 := Tryz.underlying365,
  a116 := Tryz.isAgg365,
  z116 := Tryz.sizeOf365,
  t117 := Tryz.underlying366,
  a117 := Tryz.isAgg366,
  z117 := Tryz.sizeOf366,
  v117 := Tryz.zeroValue366,
  t119 := Tryz.underlying396,
  a119 := Tryz.isAgg396,
  z119 := Tryz.sizeOf396,
  t124 := Tryz.underlying369,
  a124 := Tryz.isAgg369,
  z124 := Tryz.sizeOf369,
  v124 := Tryz.zeroValue369,
  t138 := Tryz.underlying398,
  a138 := Tryz.isAgg398,
  z138 := Tryz.sizeOf398,
  v138 := Tryz.zeroValue398,
  t139 := Tryz.underlying399,
  a139 := Tryz.isAgg399,
  z139 := Tryz.sizeOf399,
  v139 := Tryz.zeroValue399,
  g3 := by kernel_rfl,
  g4 := by kernel_rfl }

theorem d305 (a0 a1 : Str) (r : Str) (h : trimO a0 a1 = some r) : Det Tryz.prog 305 [AV.str a0, AV.str a1] (.ret (AV.str r)) := by
  unfold trimO at h
  split at h
  · rename_i hp
    cases h
    refine Det.of_below (fun args w => by simp [callFunc, Tryz.func305, Tryz.f305]) ?_
    intro g w cargs h2 h3
    obtain ⟨x, y, rfl, hx, hy⟩ := two_args h2 h3
    obtain ⟨rfl, _⟩ := hx.plain_of
    obtain ⟨rfl, _⟩ := hy.plain_of
    refine (Any.strings_Trim_laid lay160 (by kernel_rfl) ⟨a0.toArray⟩ ⟨a1.toArray⟩ w (by rw [size_data]; simpa using hp.1) (by rw [size_data]; simpa using hp.2.1) (ascii_of_all (by simpa using hp.2.2))).mono ?_
    rintro e w' ⟨rfl, hb⟩
    exact ⟨_, rfl, fun D => .val _ rfl, hb⟩
  · cases h


-- res.Name
def F274.j7  : (Bool) → Option Bool := fun p7 =>
  some p7
def F274 (a0 : Str) : Option Bool :=
  if decide ((1 : Int) ≤ (List.length a0 : Int)) = true then (if decide ((List.length a0 : Int) ≤ (12 : Int)) = true then ((trimO a0 [97, 98, 99, 100, 101, 102, 103, 104, 105, 106, 107, 108, 109, 110, 111, 112, 113, 114, 115, 116, 117, 118, 119, 120, 121, 122, 48, 49, 50, 51, 52, 53, 54, 55, 56, 57]).bind fun x4_10 => F274.j7 (decide (x4_10 = []))) else (F274.j7 false)) else (F274.j7 false)
/-- ballast/res.Name -/
theorem c274 (a0 : Str) (r : Bool) (h : F274 a0 = some r) :
    Det Tryz.prog 274 [AV.str a0] (.ret (AV.bool r)) := by
  refine Det.of_le ?_
  refine @calls_of_body Tryz.prog 274 Tryz.f274 _ Tryz.func274 rfl (by kernel_rfl) [.tmp 2] (by rw [Tryz.results274]) 16 Tryz.ntmps274 _ _ _ (by simp only [List.length_cons, List.length_nil]; decide) ?_
  unfold F274 at h
  refine awp_sr kpNone [] [] [0] (cs := []) (st' := ⟨16, [(0, AV.str a0)], [], [], []⟩) (by kernel_rfl) trivial ?_
  refine awp_seq fun N3 hN3 => ?_
  refine awp_to (σ := Bool) (fun p7 => ⟨16, [(2, AV.bool p7)], [], [], []⟩) (fun p7 => F274.j7 p7 = some r) (fun p7 h => ?_) (fun N7 hJ7 => ?_)
  · unfold F274.j7 at h
    refine hN3 _ ?_
    have h := Option.some.inj h
    subst h
    exact awp_ret ⟨[AV.bool p7], by kernel_rfl, Lw.refl _⟩
  · by_cases hg5 : decide ((1 : Int) ≤ (List.length a0 : Int)) = true
    · rw [if_pos hg5] at h
      by_cases hg6 : decide ((List.length a0 : Int) ≤ (12 : Int)) = true
      · rw [if_pos hg6] at h
        obtain ⟨x4_10, hx4_10, h⟩ := Option.bind_eq_some_iff.1 h
        refine awp_reg kpNone [(10, AV.str x4_10)] [(3, true), (8, true)] [2] (cs := [(decide ((1 : Int) ≤ (List.length a0 : Int)) = true), (decide ((List.length a0 : Int) ≤ (12 : Int)) = true), (Det Tryz.prog 305 [AV.str a0, AV.str [97, 98, 99, 100, 101, 102, 103, 104, 105, 106, 107, 108, 109, 110, 111, 112, 113, 114, 115, 116, 117, 118, 119, 120, 121, 122, 48, 49, 50, 51, 52, 53, 54, 55, 56, 57]] (.ret (AV.str x4_10)))]) (st' := ⟨16, [(2, AV.bool (decide (x4_10 = [])))], [], [], []⟩) (by kernel_rfl) ⟨hg5, hg6, d305 a0 [97, 98, 99, 100, 101, 102, 103, 104, 105, 106, 107, 108, 109, 110, 111, 112, 113, 114, 115, 116, 117, 118, 119, 120, 121, 122, 48, 49, 50, 51, 52, 53, 54, 55, 56, 57] _ hx4_10, trivial⟩ ?_
        exact hJ7 (decide (x4_10 = [])) _ h (Le.rfl')
      · rw [if_neg hg6] at h
        have hg6 := Bool.eq_false_iff.2 hg6
        refine awp_reg kpNone [] [(3, true), (8, false)] [2] (cs := [(decide ((1 : Int) ≤ (List.length a0 : Int)) = true), (decide ((List.length a0 : Int) ≤ (12 : Int)) = false)]) (st' := ⟨16, [(2, AV.bool false)], [], [], []⟩) (by kernel_rfl) ⟨hg5, hg6, trivial⟩ ?_
        exact hJ7 false _ h (Le.rfl')
    · rw [if_neg hg5] at h
      have hg5 := Bool.eq_false_iff.2 hg5
      refine awp_reg kpNone [] [(3, false)] [2] (cs := [(decide ((1 : Int) ≤ (List.length a0 : Int)) = false)]) (st' := ⟨16, [(2, AV.bool false)], [], [], []⟩) (by kernel_rfl) ⟨hg5, trivial⟩ ?_
      exact hJ7 false _ h (Le.rfl')


-- res.Check
def F186.j29 (rec11 : (Int) → Option Int) (p11 : Int) : (Bool) → Option Int := fun p29 =>
  if p29 = true then (some 13) else (rec11 (w64 (p11 + (1 : Int))))
def F186.l11 (a0 : (List Amount)) (rec11 : (Int) → Option Int) : (Int) → Option Int := fun p11 =>
  if decide (p11 < (List.length a0 : Int)) = true then ((getI a0 p11).bind fun x17_1 => (F274 x17_1.Name).bind fun x19_2 => if (!x19_2) = true then (some 3) else (if decide (x17_1.N ≤ (0 : Int)) = true then (some 1) else (if decide ((0 : Int) < p11) = true then ((getI a0 (w64 (p11 - (1 : Int)))).bind fun x27_8 => F186.j29 rec11 p11 ((Op.bytesLess x17_1.Name x27_8.Name) || decide (x17_1.Name = x27_8.Name))) else (F186.j29 rec11 p11 false)))) else (some 0)
def F186 (l11 : (Int) → Option Int) (a0 : (List Amount)) : Option Int :=
  if decide ((8 : Int) < (List.length a0 : Int)) = true then (some 4) else (l11 0)
/-- ballast/res.Check -/
theorem c186 (a0 : (List Amount)) (l11 : (Int) → Option Int) (hl11 : Rounds (F186.l11 a0) (l11)) (r : Int) (h : F186 l11 a0 = some r) :
    Det Tryz.prog 186 [AV.lst 2 Amount.av a0] (.ret (AV.int r)) := by
  refine Det.of_le ?_
  refine @calls_of_body Tryz.prog 186 Tryz.f186 _ Tryz.func186 rfl (by kernel_rfl) [.tmp 2] (by rw [Tryz.results186]) 39 Tryz.ntmps186 _ _ _ (by simp only [List.length_cons, List.length_nil]; decide) ?_
  unfold F186 at h
  refine awp_sr kpNone [] [] [0] (cs := []) (st' := ⟨39, [(0, AV.lst 2 Amount.av a0)], [], [], []⟩) (by kernel_rfl) trivial ?_
  refine awp_seq fun N3 hN3 => ?_
  refine awp_sr kpNone [(1, AV.int (List.length a0 : Int))] [] [0, 7] (cs := [((AV.int (List.length a0 : Int) = .val (.int .i64 (List.length (List.map Amount.av a0) : Int))))]) (st' := ⟨39, [(0, AV.lst 2 Amount.av a0), (7, AV.bool (decide ((8 : Int) < (List.length a0 : Int))))], [], [], []⟩) (by kernel_rfl) ⟨len_map _ _, trivial⟩ ?_
  refine awp_cond (t := decide ((8 : Int) < (List.length a0 : Int))) rfl (fun hb => ?_) (fun hb => ?_)
  · rw [if_pos hb] at h
    refine awp_sr kpNone [] [] [2] (cs := []) (st' := ⟨39, [(2, AV.int 4)], [], [], []⟩) (by kernel_rfl) trivial ?_
    have h := Option.some.inj h
    subst h
    exact awp_ret ⟨[AV.int 4], by kernel_rfl, Lw.refl _⟩
  · rw [if_false hb] at h
    refine awp_skip ?_
    refine hN3 _ ?_
    refine awp_seq fun N8 hN8 => ?_
    refine awp_sr kpNone [(1, AV.int (List.length a0 : Int))] [] [0, 8, 9, 10] (cs := [((AV.int (List.length a0 : Int) = .val (.int .i64 (List.length (List.map Amount.av a0) : Int))))]) (st' := ⟨39, [(0, AV.lst 2 Amount.av a0), (8, AV.lst 2 Amount.av a0), (9, AV.int (List.length a0 : Int)), (10, AV.int 0)], [], [], []⟩) (by kernel_rfl) ⟨len_map _ _, trivial⟩ ?_
    refine awp_block ?_
    refine awp_loop ?_
    refine awpL_le (st' := ⟨39, [(0, AV.lst 2 Amount.av a0), (8, AV.lst 2 Amount.av a0), (9, AV.int (List.length a0 : Int)), (10, AV.int 0)], [], [], []⟩) ?_ ?_
    · exact Le.rfl'
    refine awpL_fix hl11 r (fun p11 => ⟨39, [(0, AV.lst 2 Amount.av a0), (8, AV.lst 2 Amount.av a0), (9, AV.int (List.length a0 : Int)), (10, AV.int p11)], [], [], []⟩) (fun rec11 hrec11 p11 h => ?_) 0 h
    unfold F186.l11 at h
    refine awpL_round ?_
    refine awp_sr kpNone [] [] [0, 8, 9, 10, 11] (cs := []) (st' := ⟨39, [(0, AV.lst 2 Amount.av a0), (8, AV.lst 2 Amount.av a0), (9, AV.int (List.length a0 : Int)), (10, AV.int p11), (11, AV.bool (decide (p11 < (List.length a0 : Int))))], [], [], []⟩) (by kernel_rfl) trivial ?_
    refine awp_seq fun N14 hN14 => ?_
    refine awp_cond (t := decide (p11 < (List.length a0 : Int))) rfl (fun hb => ?_) (fun hb => ?_)
    · rw [if_pos hb] at h
      refine awp_skip ?_
      refine hN14 _ ?_
      refine awp_seq fun N15 hN15 => ?_
      refine awp_block ?_
      obtain ⟨x17_1, hx17_1, h⟩ := Option.bind_eq_some_iff.1 h
      refine awp_sr kpNone [(1, Amount.av x17_1)] [] [0, 3, 4, 8, 9, 10] (cs := [(0 ≤ p11), ((List.map Amount.av a0)[Int.toNat p11]? = some (Amount.av x17_1))]) (st' := ⟨39, [(0, AV.lst 2 Amount.av a0), (3, AV.int p11), (4, .varp 4 0), (8, AV.lst 2 Amount.av a0), (9, AV.int (List.length a0 : Int)), (10, AV.int p11)], [(4, (false, [AV.str x17_1.Name, AV.int x17_1.N]))], [], []⟩) (by kernel_rfl) ⟨getI_le hx17_1, getI_map hx17_1 _, trivial⟩ ?_
      refine awp_block ?_
      obtain ⟨x19_2, hx19_2, h⟩ := Option.bind_eq_some_iff.1 h
      refine awp_sr kpNone [(2, AV.bool x19_2)] [] [0, 3, 4, 8, 9, 10, 15] (cs := [(Det Tryz.prog 274 [AV.str x17_1.Name] (.ret (AV.bool x19_2)))]) (st' := ⟨39, [(0, AV.lst 2 Amount.av a0), (3, AV.int p11), (4, .varp 4 0), (8, AV.lst 2 Amount.av a0), (9, AV.int (List.length a0 : Int)), (10, AV.int p11), (15, AV.bool (!x19_2))], [(4, (false, [AV.str x17_1.Name, AV.int x17_1.N]))], [], []⟩) (by kernel_rfl) ⟨c274 x17_1.Name _ hx19_2, trivial⟩ ?_
      refine awp_cond (t := (!x19_2)) rfl (fun hb => ?_) (fun hb => ?_)
      · rw [if_pos hb] at h
        refine awp_sr kpNone [] [] [2] (cs := []) (st' := ⟨39, [(2, AV.int 3)], [(4, (false, [AV.str x17_1.Name, AV.int x17_1.N]))], [], []⟩) (by kernel_rfl) trivial ?_
        have h := Option.some.inj h
        subst h
        exact awp_ret ⟨[AV.int 3], by kernel_rfl, Lw.refl _⟩
      · rw [if_false hb] at h
        refine awp_sr kpNone [] [] [0, 3, 4, 8, 9, 10, 20] (cs := []) (st' := ⟨39, [(0, AV.lst 2 Amount.av a0), (3, AV.int p11), (4, .varp 4 0), (8, AV.lst 2 Amount.av a0), (9, AV.int (List.length a0 : Int)), (10, AV.int p11), (20, AV.bool (decide (x17_1.N ≤ (0 : Int))))], [(4, (false, [AV.str x17_1.Name, AV.int x17_1.N]))], [], []⟩) (by kernel_rfl) trivial ?_
        refine awp_cond (t := decide (x17_1.N ≤ (0 : Int))) rfl (fun hb => ?_) (fun hb => ?_)
        · rw [if_pos hb] at h
          refine awp_sr kpNone [] [] [2] (cs := []) (st' := ⟨39, [(2, AV.int 1)], [(4, (false, [AV.str x17_1.Name, AV.int x17_1.N]))], [], []⟩) (by kernel_rfl) trivial ?_
          have h := Option.some.inj h
          subst h
          exact awp_ret ⟨[AV.int 1], by kernel_rfl, Lw.refl _⟩
        · rw [if_false hb] at h
          refine awp_seq fun N26 hN26 => ?_
          refine awp_to (σ := Bool) (fun p29 => ⟨39, [(0, AV.lst 2 Amount.av a0), (8, AV.lst 2 Amount.av a0), (9, AV.int (List.length a0 : Int)), (10, AV.int p11), (24, AV.bool p29)], [(4, (false, [AV.str x17_1.Name, AV.int x17_1.N]))], [], []⟩) (fun p29 => F186.j29 rec11 p11 p29 = some r) (fun p29 h => ?_) (fun N29 hJ29 => ?_)
          · unfold F186.j29 at h
            refine hN26 _ ?_
            refine awp_cond (t := p29) rfl (fun hb => ?_) (fun hb => ?_)
            · rw [if_pos hb] at h
              refine awp_sr kpNone [] [] [2] (cs := []) (st' := ⟨39, [(2, AV.int 13)], [(4, (false, [AV.str x17_1.Name, AV.int x17_1.N]))], [], []⟩) (by kernel_rfl) trivial ?_
              have h := Option.some.inj h
              subst h
              exact awp_ret ⟨[AV.int 13], by kernel_rfl, Lw.refl _⟩
            · rw [if_false hb] at h
              refine awp_skip ?_
              refine hN15 _ ?_
              refine awp_reg kpNone [] [] [0, 8, 9, 10] (cs := []) (st' := ⟨39, [(0, AV.lst 2 Amount.av a0), (8, AV.lst 2 Amount.av a0), (9, AV.int (List.length a0 : Int)), (10, AV.int (w64 (p11 + (1 : Int))))], [(4, (false, [AV.str x17_1.Name, AV.int x17_1.N]))], [], []⟩) (by kernel_rfl) trivial ?_
              refine awpL_le ?_ (hrec11 _ h)
              exact Le.mk rfl ⟨.inl rfl, .inl rfl, rfl, rfl, trivial⟩ trivial trivial trivial
          · by_cases hg28 : decide ((0 : Int) < p11) = true
            · rw [if_pos hg28] at h
              obtain ⟨x27_8, hx27_8, h⟩ := Option.bind_eq_some_iff.1 h
              refine awp_regD mixedTryz kpNone [(8, Amount.av x27_8)] [(2, true)] [0, 8, 9, 10, 24] (by kernel_rfl) (cs := [(decide ((0 : Int) < p11) = true), (0 ≤ (w64 (p11 - (1 : Int)))), ((List.map Amount.av a0)[Int.toNat (w64 (p11 - (1 : Int)))]? = some (Amount.av x27_8))]) (st' := ⟨39, [(0, AV.lst 2 Amount.av a0), (8, AV.lst 2 Amount.av a0), (9, AV.int (List.length a0 : Int)), (10, AV.int p11), (24, AV.bool ((Op.bytesLess x17_1.Name x27_8.Name) || decide (x17_1.Name = x27_8.Name)))], [(4, (false, [AV.str x17_1.Name, AV.int x17_1.N]))], [], []⟩) (by kernel_rfl) ⟨hg28, getI_le hx27_8, getI_map hx27_8 _, trivial⟩ ?_
              exact hJ29 ((Op.bytesLess x17_1.Name x27_8.Name) || decide (x17_1.Name = x27_8.Name)) _ h (Le.rfl')
            · rw [if_neg hg28] at h
              have hg28 := Bool.eq_false_iff.2 hg28
              refine awp_regD mixedTryz kpNone [] [(2, false)] [0, 8, 9, 10, 24] (by kernel_rfl) (cs := [(decide ((0 : Int) < p11) = false)]) (st' := ⟨39, [(0, AV.lst 2 Amount.av a0), (8, AV.lst 2 Amount.av a0), (9, AV.int (List.length a0 : Int)), (10, AV.int p11), (24, AV.bool false)], [(4, (false, [AV.str x17_1.Name, AV.int x17_1.N]))], [], []⟩) (by kernel_rfl) ⟨hg28, trivial⟩ ?_
              exact hJ29 false _ h (Le.rfl')
    · rw [if_false hb] at h
      refine awp_exit ?_
      refine hN8 _ ?_
      refine awp_sr kpNone [] [] [2] (cs := []) (st' := ⟨39, [(2, AV.int 0)], [], [], []⟩) (by kernel_rfl) trivial ?_
      have h := Option.some.inj h
      subst h
      exact awp_ret ⟨[AV.int 0], by kernel_rfl, Lw.refl _⟩
def A186.l11 (a0 : (List Amount)) : (Int) → Option Int := iterL (F186.l11 a0) 4096
def A186 (a0 : (List Amount)) : Option Int := F186 (A186.l11 a0) a0
theorem d186 (a0 : (List Amount)) (r : Int) (h : A186 a0 = some r) :
    Det Tryz.prog 186 [AV.lst 2 Amount.av a0] (.ret (AV.int r)) := by
  exact c186 a0 (A186.l11 a0) (rounds_iter _ _) r h


-- res.names
def F271.l17 (x14_0 : (List Amount)) (rec8 : (List Str × Int) → Option (List Str)) (p8 : List Str × Int) (rec17 : (List Str × Int) → Option (List Str)) : (List Str × Int) → Option (List Str) := fun p17 =>
  if decide (p17.2 < (List.length x14_0 : Int)) = true then ((getI x14_0 p17.2).bind fun x23_0 => if fits 16 (List.length (p17.1 ++ [x23_0.Name])) then (rec17 (p17.1 ++ [x23_0.Name], w64 (p17.2 + (1 : Int)))) else none) else (rec8 (p17.1, w64 (p8.2 + (1 : Int))))
def F271.l8 (a0 : (List (List Amount))) (l17 : ((List Amount)) → ((List Str × Int) → Option (List Str)) → (List Str × Int) → (List Str × Int) → Option (List Str)) (rec8 : (List Str × Int) → Option (List Str)) : (List Str × Int) → Option (List Str) := fun p8 =>
  if decide (p8.2 < (List.length a0 : Int)) = true then ((getI a0 p8.2).bind fun x14_0 => l17 x14_0 rec8 p8 (p8.1, 0)) else (if List.length p8.1 < 4611686018427387904 then (if List.length (sortS p8.1) ≤ 9223372036854775807 then (some (compS (sortS p8.1))) else none) else none)
def F271 (l17 : ((List Amount)) → ((List Str × Int) → Option (List Str)) → (List Str × Int) → (List Str × Int) → Option (List Str)) (l8 : (((List Amount)) → ((List Str × Int) → Option (List Str)) → (List Str × Int) → (List Str × Int) → Option (List Str)) → (List Str × Int) → Option (List Str)) (a0 : (List (List Amount))) : Option (List Str) :=
  l8 l17 (([] : List Str), 0)
/-- ballast/res.names -/
theorem c271 (a0 : (List (List Amount))) (l17 : ((List Amount)) → ((List Str × Int) → Option (List Str)) → (List Str × Int) → (List Str × Int) → Option (List Str)) (l8 : (((List Amount)) → ((List Str × Int) → Option (List Str)) → (List Str × Int) → (List Str × Int) → Option (List Str)) → (List Str × Int) → Option (List Str)) (hl17 : ∀ (x14_0 : (List Amount)), ∀ (rec8 : (List Str × Int) → Option (List Str)), ∀ (p8 : List Str × Int), Rounds (F271.l17 x14_0 rec8 p8) (l17 x14_0 rec8 p8)) (hl8 : ∀ (l17 : ((List Amount)) → ((List Str × Int) → Option (List Str)) → (List Str × Int) → (List Str × Int) → Option (List Str)), Rounds (F271.l8 a0 l17) (l8 l17)) (r : (List Str)) (h : F271 l17 l8 a0 = some r) :
    Det Tryz.prog 271 [AV.lst 1 (AV.lst 2 Amount.av) a0] (.ret (AV.lst 1 AV.str r)) := by
  refine Det.of_le ?_
  refine @calls_of_body Tryz.prog 271 Tryz.f271 _ Tryz.func271 rfl (by kernel_rfl) [.tmp 2] (by rw [Tryz.results271]) 31 Tryz.ntmps271 _ _ _ (by simp only [List.length_cons, List.length_nil]; decide) ?_
  unfold F271 at h
  refine awp_sr kpNone [] [] [0] (cs := []) (st' := ⟨31, [(0, AV.lst 1 (AV.lst 2 Amount.av) a0)], [], [], []⟩) (by kernel_rfl) trivial ?_
  refine awp_sr kpNone [] [] [0, 3] (cs := []) (st' := ⟨31, [(0, AV.lst 1 (AV.lst 2 Amount.av) a0), (3, .nils)], [], [], []⟩) (by kernel_rfl) trivial ?_
  refine awp_seq fun N5 hN5 => ?_
  refine awp_sr kpNone [(1, AV.int (List.length a0 : Int))] [] [3, 8, 9, 10] (cs := [((AV.int (List.length a0 : Int) = .val (.int .i64 (List.length (List.map (AV.lst 2 Amount.av) a0) : Int))))]) (st' := ⟨31, [(3, .nils), (8, AV.lst 1 (AV.lst 2 Amount.av) a0), (9, AV.int (List.length a0 : Int)), (10, AV.int 0)], [], [], []⟩) (by kernel_rfl) ⟨len_map _ _, trivial⟩ ?_
  refine awp_block ?_
  refine awp_loop ?_
  refine awpL_le (st' := ⟨31, [(3, .slice (.own 24) 1 (List.map AV.str ([] : List Str))), (8, AV.lst 1 (AV.lst 2 Amount.av) a0), (9, AV.int (List.length a0 : Int)), (10, AV.int 0)], [], [], [(24, (9, 1, List.length (List.map AV.str ([] : List Str))))]⟩) ?_ ?_
  · exact Le.mk rfl ⟨.inr ⟨rfl, rfl, rfl⟩, .inl rfl, rfl, rfl, trivial⟩ trivial ⟨⟨rfl, by decide⟩, trivial⟩ trivial
  refine awpL_fix (hl8 l17) r (fun p8 => ⟨31, [(3, .slice (.own 24) 1 (List.map AV.str p8.1)), (8, AV.lst 1 (AV.lst 2 Amount.av) a0), (9, AV.int (List.length a0 : Int)), (10, AV.int p8.2)], [], [], [(24, (9, 1, List.length (List.map AV.str p8.1)))]⟩) (fun rec8 hrec8 p8 h => ?_) (([] : List Str), 0) h
  unfold F271.l8 at h
  refine awpL_round ?_
  refine awp_sr kpNone [] [] [3, 8, 9, 10, 11] (cs := []) (st' := ⟨31, [(3, .slice (.own 24) 1 (List.map AV.str p8.1)), (8, AV.lst 1 (AV.lst 2 Amount.av) a0), (9, AV.int (List.length a0 : Int)), (10, AV.int p8.2), (11, AV.bool (decide (p8.2 < (List.length a0 : Int))))], [], [], [(24, (9, 1, List.length (List.map AV.str p8.1)))]⟩) (by kernel_rfl) trivial ?_
  refine awp_seq fun N11 hN11 => ?_
  refine awp_cond (t := decide (p8.2 < (List.length a0 : Int))) rfl (fun hb => ?_) (fun hb => ?_)
  · rw [if_pos hb] at h
    refine awp_skip ?_
    refine hN11 _ ?_
    refine awp_seq fun N12 hN12 => ?_
    refine awp_block ?_
    obtain ⟨x14_0, hx14_0, h⟩ := Option.bind_eq_some_iff.1 h
    refine awp_sr kpNone [(0, AV.lst 2 Amount.av x14_0)] [] [3, 5, 8, 9, 10] (cs := [(0 ≤ p8.2), ((List.map (AV.lst 2 Amount.av) a0)[Int.toNat p8.2]? = some (AV.lst 2 Amount.av x14_0))]) (st' := ⟨31, [(3, .slice (.own 24) 1 (List.map AV.str p8.1)), (5, AV.lst 2 Amount.av x14_0), (8, AV.lst 1 (AV.lst 2 Amount.av) a0), (9, AV.int (List.length a0 : Int)), (10, AV.int p8.2)], [], [], [(24, (9, 1, List.length (List.map AV.str p8.1)))]⟩) (by kernel_rfl) ⟨getI_le hx14_0, getI_map hx14_0 _, trivial⟩ ?_
    refine awp_sr kpNone [(1, AV.int (List.length x14_0 : Int))] [] [3, 8, 9, 10, 14, 15, 16] (cs := [((AV.int (List.length x14_0 : Int) = .val (.int .i64 (List.length (List.map Amount.av x14_0) : Int))))]) (st' := ⟨31, [(3, .slice (.own 24) 1 (List.map AV.str p8.1)), (8, AV.lst 1 (AV.lst 2 Amount.av) a0), (9, AV.int (List.length a0 : Int)), (10, AV.int p8.2), (14, AV.lst 2 Amount.av x14_0), (15, AV.int (List.length x14_0 : Int)), (16, AV.int 0)], [], [], [(24, (9, 1, List.length (List.map AV.str p8.1)))]⟩) (by kernel_rfl) ⟨len_map _ _, trivial⟩ ?_
    refine awp_block ?_
    refine awp_loop ?_
    refine awpL_le (st' := ⟨31, [(3, .slice (.own 24) 1 (List.map AV.str p8.1)), (8, AV.lst 1 (AV.lst 2 Amount.av) a0), (9, AV.int (List.length a0 : Int)), (10, AV.int p8.2), (14, AV.lst 2 Amount.av x14_0), (15, AV.int (List.length x14_0 : Int)), (16, AV.int 0)], [], [], [(24, (9, 1, List.length (List.map AV.str p8.1)))]⟩) ?_ ?_
    · exact Le.rfl'
    refine awpL_fix (hl17 x14_0 rec8 p8) r (fun p17 => ⟨31, [(3, .slice (.own 24) 1 (List.map AV.str p17.1)), (8, AV.lst 1 (AV.lst 2 Amount.av) a0), (9, AV.int (List.length a0 : Int)), (10, AV.int p8.2), (14, AV.lst 2 Amount.av x14_0), (15, AV.int (List.length x14_0 : Int)), (16, AV.int p17.2)], [], [], [(24, (9, 1, List.length (List.map AV.str p17.1)))]⟩) (fun rec17 hrec17 p17 h => ?_) (p8.1, 0) h
    unfold F271.l17 at h
    refine awpL_round ?_
    refine awp_sr kpNone [] [] [3, 8, 9, 10, 14, 15, 16, 17] (cs := []) (st' := ⟨31, [(3, .slice (.own 24) 1 (List.map AV.str p17.1)), (8, AV.lst 1 (AV.lst 2 Amount.av) a0), (9, AV.int (List.length a0 : Int)), (10, AV.int p8.2), (14, AV.lst 2 Amount.av x14_0), (15, AV.int (List.length x14_0 : Int)), (16, AV.int p17.2), (17, AV.bool (decide (p17.2 < (List.length x14_0 : Int))))], [], [], [(24, (9, 1, List.length (List.map AV.str p17.1)))]⟩) (by kernel_rfl) trivial ?_
    refine awp_seq fun N20 hN20 => ?_
    refine awp_cond (t := decide (p17.2 < (List.length x14_0 : Int))) rfl (fun hb => ?_) (fun hb => ?_)
    · rw [if_pos hb] at h
      refine awp_skip ?_
      refine hN20 _ ?_
      refine awp_seq fun N21 hN21 => ?_
      refine awp_block ?_
      obtain ⟨x23_0, hx23_0, h⟩ := Option.bind_eq_some_iff.1 h
      refine awp_sr kpNone [(0, Amount.av x23_0)] [] [3, 7, 8, 9, 10, 14, 15, 16] (cs := [(0 ≤ p17.2), ((List.map Amount.av x14_0)[Int.toNat p17.2]? = some (Amount.av x23_0))]) (st' := ⟨31, [(3, .slice (.own 24) 1 (List.map AV.str p17.1)), (7, .varp 7 0), (8, AV.lst 1 (AV.lst 2 Amount.av) a0), (9, AV.int (List.length a0 : Int)), (10, AV.int p8.2), (14, AV.lst 2 Amount.av x14_0), (15, AV.int (List.length x14_0 : Int)), (16, AV.int p17.2)], [(7, (false, [AV.str x23_0.Name, AV.int x23_0.N]))], [], [(24, (9, 1, List.length (List.map AV.str p17.1)))]⟩) (by kernel_rfl) ⟨getI_le hx23_0, getI_map hx23_0 _, trivial⟩ ?_
      obtain ⟨hp24_4, h⟩ := guardP h
      refine awp_reg kpNone [(4, AV.lst 1 AV.str (p17.1 ++ [x23_0.Name]))] [] [3, 8, 9, 10, 14, 15, 16] (cs := [(List.length (List.map AV.str p17.1) = List.length (List.map AV.str p17.1)), (List.length (List.map AV.str (p17.1 ++ [x23_0.Name])) * 16 ≤ 140737488355328), (List.length (List.map AV.str (p17.1 ++ [x23_0.Name])) ≤ 140737488355328), (List.map AV.str p17.1 ++ List.map AV.str [x23_0.Name] = List.map AV.str (p17.1 ++ [x23_0.Name]))]) (st' := ⟨31, [(3, .slice (.own 24) 1 (List.map AV.str (p17.1 ++ [x23_0.Name]))), (8, AV.lst 1 (AV.lst 2 Amount.av) a0), (9, AV.int (List.length a0 : Int)), (10, AV.int p8.2), (14, AV.lst 2 Amount.av x14_0), (15, AV.int (List.length x14_0 : Int)), (16, AV.int p17.2)], [(7, (false, [AV.str x23_0.Name, AV.int x23_0.N]))], [], [(24, (9, 1, List.length (List.map AV.str (p17.1 ++ [x23_0.Name])))), (23, (9, 1, 1))]⟩) (by kernel_rfl) ⟨by simp only [List.length_map, List.length_cons, List.length_nil], len_mul _ _ _ _ hp24_4.1, len_ge _ _ hp24_4.2, lst_app _ _ _, trivial⟩ ?_
      refine hN21 _ ?_
      refine awp_reg kpNone [] [] [3, 8, 9, 10, 14, 15, 16] (cs := []) (st' := ⟨31, [(3, .slice (.own 24) 1 (List.map AV.str (p17.1 ++ [x23_0.Name]))), (8, AV.lst 1 (AV.lst 2 Amount.av) a0), (9, AV.int (List.length a0 : Int)), (10, AV.int p8.2), (14, AV.lst 2 Amount.av x14_0), (15, AV.int (List.length x14_0 : Int)), (16, AV.int (w64 (p17.2 + (1 : Int))))], [(7, (false, [AV.str x23_0.Name, AV.int x23_0.N]))], [], [(24, (9, 1, List.length (List.map AV.str (p17.1 ++ [x23_0.Name])))), (23, (9, 1, 1))]⟩) (by kernel_rfl) trivial ?_
      refine awpL_le ?_ (hrec17 _ h)
      exact Le.mk rfl ⟨.inl ⟨rfl, rfl⟩, .inl rfl, rfl, rfl, .inl rfl, rfl, rfl, trivial⟩ trivial ⟨rfl, trivial⟩ trivial
    · rw [if_false hb] at h
      refine awp_exit ?_
      refine hN12 _ ?_
      refine awp_reg kpNone [] [] [3, 8, 9, 10] (cs := []) (st' := ⟨31, [(3, .slice (.own 24) 1 (List.map AV.str p17.1)), (8, AV.lst 1 (AV.lst 2 Amount.av) a0), (9, AV.int (List.length a0 : Int)), (10, AV.int (w64 (p8.2 + (1 : Int))))], [], [], [(24, (9, 1, List.length (List.map AV.str p17.1)))]⟩) (by kernel_rfl) trivial ?_
      refine awpL_le ?_ (hrec8 _ h)
      exact Le.rfl'
  · rw [if_false hb] at h
    refine awp_exit ?_
    refine hN5 _ ?_
    refine awp_seq fun N27 hN27 => ?_
    obtain ⟨hp28, h⟩ := guardP h
    refine awp_sort d290 (t0 := 3) (i := 24) (e := 9) (ss := p8.1) rfl rfl rfl (show 27 < 31 by decide) (by decide) rfl rfl rfl (by decide) rfl rfl rfl hp28 ?_
    refine hN27 _ ?_
    refine awp_seq fun N29 hN29 => ?_
    obtain ⟨hp30, h⟩ := guardP h
    refine awp_compact d291 (t0 := 3) (i := 24) (e := 9) (ss := sortS p8.1) rfl rfl rfl (show 29 < 31 by decide) rfl rfl rfl (show 30 < 31 by decide) rfl rfl rfl (show 2 < 31 by decide) rfl rfl rfl hp30 ?_
    refine hN29 _ ?_
    have h := Option.some.inj h
    subst h
    exact awp_ret ⟨[AV.lst 1 AV.str (compS (sortS p8.1))], by kernel_rfl, Lw.refl _⟩
def A271.l17 (a0 : (List (List Amount))) (x14_0 : (List Amount)) (rec8 : (List Str × Int) → Option (List Str)) (p8 : List Str × Int) : (List Str × Int) → Option (List Str) := iterL (F271.l17 x14_0 rec8 p8) 4096
def A271.l8 (a0 : (List (List Amount))) (l17 : ((List Amount)) → ((List Str × Int) → Option (List Str)) → (List Str × Int) → (List Str × Int) → Option (List Str)) : (List Str × Int) → Option (List Str) := iterL (F271.l8 a0 l17) 4096
def A271 (a0 : (List (List Amount))) : Option (List Str) := F271 (A271.l17 a0) (A271.l8 a0) a0
theorem d271 (a0 : (List (List Amount))) (r : (List Str)) (h : A271 a0 = some r) :
    Det Tryz.prog 271 [AV.lst 1 (AV.lst 2 Amount.av) a0] (.ret (AV.lst 1 AV.str r)) := by
  exact c271 a0 (A271.l17 a0) (A271.l8 a0) (fun _ _ _ => rounds_iter _ _) (fun _ => rounds_iter _ _) r h


-- res.made$1
def F270.j29 (rec16 : (Int × List Amount) → Option ((Res Unit) × (List Amount))) (p16 : Int × List Amount) : (List Amount) → Option ((Res Unit) × (List Amount)) := fun p29 =>
  rec16 (w64 (p16.1 + (1 : Int)), p29)
def F270.j34 (p16 : Int × List Amount) : (Unit) → Option ((Res Unit) × (List Amount)) := fun p34 =>
  some ((.ret ()), p16.2)
def F270.l16 (x15_1 : (List Str)) (g1 : Str → Option (Int × Int)) (rec16 : (Int × List Amount) → Option ((Res Unit) × (List Amount))) : (Int × List Amount) → Option ((Res Unit) × (List Amount)) := fun p16 =>
  if decide (p16.1 < (List.length x15_1 : Int)) = true then ((getI x15_1 p16.1).bind fun x22_0 => (g1 x22_0).bind fun x24_2 => thnX (F133 x24_2.2) (fun e => some (.stop e, p16.2)) fun x26_1 => if decide ((0 : Int) < x24_2.1) = true then (if fits 24 (List.length (p16.2 ++ [(⟨x22_0, x24_2.1⟩ : Amount)])) then (F270.j29 rec16 p16 (p16.2 ++ [(⟨x22_0, x24_2.1⟩ : Amount)])) else none) else (F270.j29 rec16 p16 p16.2)) else (if decide ((8 : Int) < (List.length p16.2 : Int)) = true then (thnX (F133 4) (fun e => some (.stop e, p16.2)) fun x35_0 => F270.j34 p16 ()) else (F270.j34 p16 ()))
def F270.l4 (a0 : (List (List Amount))) (l16 : ((List Str)) → (Int × List Amount) → Option ((Res Unit) × (List Amount))) (rec4 : (Int) → Option ((Res Unit) × (List Amount))) : (Int) → Option ((Res Unit) × (List Amount)) := fun p4 =>
  if decide (p4 < (List.length a0 : Int)) = true then ((getI a0 p4).bind fun x10_0 => (A186 x10_0).bind fun x11_1 => thnX (F133 x11_1) (fun e => some (.stop e, ([] : (List Amount)))) fun x11_2 => rec4 (w64 (p4 + (1 : Int)))) else ((A271 a0).bind fun x15_1 => l16 x15_1 (0, ([] : List Amount)))
def F270 (l16 : ((List Str)) → (Int × List Amount) → Option ((Res Unit) × (List Amount))) (l4 : (((List Str)) → (Int × List Amount) → Option ((Res Unit) × (List Amount))) → (Int) → Option ((Res Unit) × (List Amount))) (a0 : (List (List Amount))) (g1 : Str → Option (Int × Int)) : Option ((Res Unit) × (List Amount)) :=
  l4 l16 0
/-- ballast/res.made$1 -/
theorem c270 (a0 : (List (List Amount))) (g1 : Str → Option (Int × Int)) (gf1 : FuncId) (gc1 : List AV) (hc1 : List.map AV.cl0 gc1 = gc1) (hg1 : ∀ (y0 : Str) (r : (Int × Int)), g1 y0 = some r → Det Tryz.prog gf1 ((AV.str y0) :: List.map AV.cl gc1) (.ret (.tuple [AV.int r.1, AV.int r.2]))) (l16 : ((List Str)) → (Int × List Amount) → Option ((Res Unit) × (List Amount))) (l4 : (((List Str)) → (Int × List Amount) → Option ((Res Unit) × (List Amount))) → (Int) → Option ((Res Unit) × (List Amount))) (hl16 : ∀ (x15_1 : (List Str)), Rounds (F270.l16 x15_1 g1) (l16 x15_1)) (hl4 : ∀ (l16 : ((List Str)) → (Int × List Amount) → Option ((Res Unit) × (List Amount))), Rounds (F270.l4 a0 l16) (l4 l16)) (r : ((Res Unit) × (List Amount))) (h : F270 l16 l4 a0 g1 = some r) :
    DetX Tryz.prog 270 [.inp [AV.lst 1 (AV.lst 2 Amount.av) a0], .inp [.func gf1 gc1], .extp 0 0] [[.nils]] (Res.out 279 (fun q => .tuple []) r.1) [[AV.lst 2 Amount.av r.2]] := by
  refine DetX.of_le ?_
  refine @calls_of_body Tryz.prog 270 Tryz.f270 _ Tryz.func270 rfl (by kernel_rfl) [] (by rw [Tryz.results270]) 47 Tryz.ntmps270 _ _ _ (by simp only [List.length_cons, List.length_nil]; decide) ?_
  unfold F270 at h
  refine awp_seq fun N1 hN1 => ?_
  refine awp_sr kpNone [(1, AV.int (List.length a0 : Int))] [] [0, 1, 2, 9, 10, 11] (cs := [((AV.int (List.length a0 : Int) = .val (.int .i64 (List.length (List.map (AV.lst 2 Amount.av) a0) : Int))))]) (st' := ⟨47, [(0, .inp [AV.lst 1 (AV.lst 2 Amount.av) a0]), (1, .inp [.func gf1 gc1]), (2, .extp 0 0), (9, AV.lst 1 (AV.lst 2 Amount.av) a0), (10, AV.int (List.length a0 : Int)), (11, AV.int 0)], [], [[.nils]], []⟩) (by kernel_rfl) ⟨len_map _ _, trivial⟩ ?_
  refine awp_block ?_
  refine awp_loop ?_
  refine awpL_le (st' := ⟨47, [(0, .inp [AV.lst 1 (AV.lst 2 Amount.av) a0]), (1, .inp [.func gf1 gc1]), (2, .extp 0 0), (9, AV.lst 1 (AV.lst 2 Amount.av) a0), (10, AV.int (List.length a0 : Int)), (11, AV.int 0)], [], [[.nils]], []⟩) ?_ ?_
  · exact Le.rfl'
  refine awpL_fix (hl4 l16) r (fun p4 => ⟨47, [(0, .inp [AV.lst 1 (AV.lst 2 Amount.av) a0]), (1, .inp [.func gf1 gc1]), (2, .extp 0 0), (9, AV.lst 1 (AV.lst 2 Amount.av) a0), (10, AV.int (List.length a0 : Int)), (11, AV.int p4)], [], [[.nils]], []⟩) (fun rec4 hrec4 p4 h => ?_) 0 h
  unfold F270.l4 at h
  refine awpL_round ?_
  refine awp_sr kpNone [] [] [0, 1, 2, 9, 10, 11, 12] (cs := []) (st' := ⟨47, [(0, .inp [AV.lst 1 (AV.lst 2 Amount.av) a0]), (1, .inp [.func gf1 gc1]), (2, .extp 0 0), (9, AV.lst 1 (AV.lst 2 Amount.av) a0), (10, AV.int (List.length a0 : Int)), (11, AV.int p4), (12, AV.bool (decide (p4 < (List.length a0 : Int))))], [], [[.nils]], []⟩) (by kernel_rfl) trivial ?_
  refine awp_seq fun N7 hN7 => ?_
  refine awp_cond (t := decide (p4 < (List.length a0 : Int))) rfl (fun hb => ?_) (fun hb => ?_)
  · rw [if_pos hb] at h
    refine awp_skip ?_
    refine hN7 _ ?_
    refine awp_seq fun N8 hN8 => ?_
    refine awp_block ?_
    obtain ⟨x10_0, hx10_0, h⟩ := Option.bind_eq_some_iff.1 h
    refine awp_sr kpNone [(0, AV.lst 2 Amount.av x10_0)] [] [0, 1, 2, 4, 9, 10, 11] (cs := [(0 ≤ p4), ((List.map (AV.lst 2 Amount.av) a0)[Int.toNat p4]? = some (AV.lst 2 Amount.av x10_0))]) (st' := ⟨47, [(0, .inp [AV.lst 1 (AV.lst 2 Amount.av) a0]), (1, .inp [.func gf1 gc1]), (2, .extp 0 0), (4, AV.lst 2 Amount.av x10_0), (9, AV.lst 1 (AV.lst 2 Amount.av) a0), (10, AV.int (List.length a0 : Int)), (11, AV.int p4)], [], [[.nils]], []⟩) (by kernel_rfl) ⟨getI_le hx10_0, getI_map hx10_0 _, trivial⟩ ?_
    obtain ⟨x11_1, hx11_1, h⟩ := Option.bind_eq_some_iff.1 h
    rcases thnX_some h with ⟨e, hx11_2, h⟩ | ⟨x11_2, hx11_2, h⟩
    · have h := Option.some.inj h; subst h
      refine awp_panT kpNone [(1, AV.int x11_1)] [] 2 (v := AV.iface 279 (.agg [AV.int e])) (cs := [(Det Tryz.prog 133 [AV.int x11_1] (.panic (AV.iface 279 (.agg [AV.int e])))), (Det Tryz.prog 186 [AV.lst 2 Amount.av x10_0] (.ret (AV.int x11_1)))]) (st' := ⟨47, [], [], [[.nils]], []⟩) (by kernel_rfl) ⟨c133 x11_1 (.stop e) hx11_2, d186 x10_0 _ hx11_1, trivial⟩ ?_
      exact ⟨(Lw.refl _), ⟨⟨(Lw.nils _), trivial⟩, trivial⟩⟩
    refine awp_reg kpNone [(1, AV.int x11_1), (2, .tuple [])] [] [0, 1, 2, 9, 10, 11] (cs := [(Det Tryz.prog 186 [AV.lst 2 Amount.av x10_0] (.ret (AV.int x11_1))), (Det Tryz.prog 133 [AV.int x11_1] (.ret (.tuple [])))]) (st' := ⟨47, [(0, .inp [AV.lst 1 (AV.lst 2 Amount.av) a0]), (1, .inp [.func gf1 gc1]), (2, .extp 0 0), (9, AV.lst 1 (AV.lst 2 Amount.av) a0), (10, AV.int (List.length a0 : Int)), (11, AV.int p4)], [], [[.nils]], []⟩) (by kernel_rfl) ⟨d186 x10_0 _ hx11_1, c133 x11_1 (.ret x11_2) hx11_2, trivial⟩ ?_
    refine hN8 _ ?_
    refine awp_reg kpNone [] [] [0, 1, 2, 9, 10, 11] (cs := []) (st' := ⟨47, [(0, .inp [AV.lst 1 (AV.lst 2 Amount.av) a0]), (1, .inp [.func gf1 gc1]), (2, .extp 0 0), (9, AV.lst 1 (AV.lst 2 Amount.av) a0), (10, AV.int (List.length a0 : Int)), (11, AV.int (w64 (p4 + (1 : Int))))], [], [[.nils]], []⟩) (by kernel_rfl) trivial ?_
    refine awpL_le ?_ (hrec4 _ h)
    exact Le.rfl'
  · rw [if_false hb] at h
    refine awp_exit ?_
    refine hN1 _ ?_
    refine awp_seq fun N13 hN13 => ?_
    obtain ⟨x15_1, hx15_1, h⟩ := Option.bind_eq_some_iff.1 h
    refine awp_sr kpNone [(1, AV.lst 1 AV.str x15_1), (2, AV.int (List.length x15_1 : Int))] [] [1, 2, 20, 21, 22] (cs := [(Det Tryz.prog 271 [AV.lst 1 (AV.lst 2 Amount.av) a0] (.ret (AV.lst 1 AV.str x15_1))), ((AV.int (List.length x15_1 : Int) = .val (.int .i64 (List.length (List.map AV.str x15_1) : Int))))]) (st' := ⟨47, [(1, .inp [.func gf1 gc1]), (2, .extp 0 0), (20, AV.lst 1 AV.str x15_1), (21, AV.int (List.length x15_1 : Int)), (22, AV.int 0)], [], [[.nils]], []⟩) (by kernel_rfl) ⟨d271 a0 _ hx15_1, len_map _ _, trivial⟩ ?_
    refine awp_block ?_
    refine awp_loop ?_
    refine awpL_le (st' := ⟨47, [(1, .inp [.func gf1 gc1]), (2, .extp 0 0), (20, AV.lst 1 AV.str x15_1), (21, AV.int (List.length x15_1 : Int)), (22, AV.int 0)], [], [[.slice (.own 41) 2 (List.map Amount.av ([] : List Amount))]], [(41, (126, 2, List.length (List.map Amount.av ([] : List Amount))))]⟩) ?_ ?_
    · exact Le.mk rfl ⟨rfl, rfl, .inl rfl, rfl, rfl, trivial⟩ trivial ⟨⟨rfl, by decide⟩, trivial⟩ ⟨⟨.inr ⟨rfl, rfl, rfl⟩, trivial⟩, trivial⟩
    refine awpL_fix (hl16 x15_1) r (fun p16 => ⟨47, [(1, .inp [.func gf1 gc1]), (2, .extp 0 0), (20, AV.lst 1 AV.str x15_1), (21, AV.int (List.length x15_1 : Int)), (22, AV.int p16.1)], [], [[.slice (.own 41) 2 (List.map Amount.av p16.2)]], [(41, (126, 2, List.length (List.map Amount.av p16.2)))]⟩) (fun rec16 hrec16 p16 h => ?_) (0, ([] : List Amount)) h
    unfold F270.l16 at h
    refine awpL_round ?_
    refine awp_sr kpNone [] [] [1, 2, 20, 21, 22, 23] (cs := []) (st' := ⟨47, [(1, .inp [.func gf1 gc1]), (2, .extp 0 0), (20, AV.lst 1 AV.str x15_1), (21, AV.int (List.length x15_1 : Int)), (22, AV.int p16.1), (23, AV.bool (decide (p16.1 < (List.length x15_1 : Int))))], [], [[.slice (.own 41) 2 (List.map Amount.av p16.2)]], [(41, (126, 2, List.length (List.map Amount.av p16.2)))]⟩) (by kernel_rfl) trivial ?_
    refine awp_seq fun N19 hN19 => ?_
    refine awp_cond (t := decide (p16.1 < (List.length x15_1 : Int))) rfl (fun hb => ?_) (fun hb => ?_)
    · rw [if_pos hb] at h
      refine awp_skip ?_
      refine hN19 _ ?_
      refine awp_seq fun N20 hN20 => ?_
      refine awp_block ?_
      obtain ⟨x22_0, hx22_0, h⟩ := Option.bind_eq_some_iff.1 h
      refine awp_sr kpNone [(0, AV.str x22_0)] [] [1, 2, 6, 20, 21, 22] (cs := [(0 ≤ p16.1), ((List.map AV.str x15_1)[Int.toNat p16.1]? = some (AV.str x22_0))]) (st' := ⟨47, [(1, .inp [.func gf1 gc1]), (2, .extp 0 0), (6, AV.str x22_0), (20, AV.lst 1 AV.str x15_1), (21, AV.int (List.length x15_1 : Int)), (22, AV.int p16.1)], [], [[.slice (.own 41) 2 (List.map Amount.av p16.2)]], [(41, (126, 2, List.length (List.map Amount.av p16.2)))]⟩) (by kernel_rfl) ⟨getI_le hx22_0, getI_map hx22_0 _, trivial⟩ ?_
      obtain ⟨x24_2, hx24_2, h⟩ := Option.bind_eq_some_iff.1 h
      refine awp_sr kpNone [(2, .tuple [AV.int x24_2.1, AV.int x24_2.2])] [] [1, 2, 6, 7, 8, 20, 21, 22] (cs := [(Det Tryz.prog gf1 ((AV.str x22_0) :: List.map AV.cl gc1) (.ret (.tuple [AV.int x24_2.1, AV.int x24_2.2])))]) (st' := ⟨47, [(1, .inp [.func gf1 gc1]), (2, .extp 0 0), (6, AV.str x22_0), (7, AV.int x24_2.1), (8, AV.int x24_2.2), (20, AV.lst 1 AV.str x15_1), (21, AV.int (List.length x15_1 : Int)), (22, AV.int p16.1)], [], [[.slice (.own 41) 2 (List.map Amount.av p16.2)]], [(41, (126, 2, List.length (List.map Amount.av p16.2)))]⟩) (by kernel_rfl) ⟨hg1 x22_0 _ hx24_2, trivial⟩ ?_
      refine awp_seq fun N25 hN25 => ?_
      rcases thnX_some h with ⟨e, hx26_1, h⟩ | ⟨x26_1, hx26_1, h⟩
      · have h := Option.some.inj h; subst h
        refine awp_panT kpNone [] [] 1 (v := AV.iface 279 (.agg [AV.int e])) (cs := [(Det Tryz.prog 133 [AV.int x24_2.2] (.panic (AV.iface 279 (.agg [AV.int e]))))]) (st' := ⟨47, [], [], [[.slice (.own 41) 2 (List.map Amount.av p16.2)]], [(41, (126, 2, List.length (List.map Amount.av p16.2)))]⟩) (by kernel_rfl) ⟨c133 x24_2.2 (.stop e) hx26_1, trivial⟩ ?_
        exact ⟨(Lw.refl _), ⟨⟨(Lw.refl _), trivial⟩, trivial⟩⟩
      refine awp_reg kpNone [(1, .tuple [])] [] [1, 2, 6, 7, 20, 21, 22] (cs := [(Det Tryz.prog 133 [AV.int x24_2.2] (.ret (.tuple [])))]) (st' := ⟨47, [(1, .inp [.func gf1 gc1]), (2, .extp 0 0), (6, AV.str x22_0), (7, AV.int x24_2.1), (20, AV.lst 1 AV.str x15_1), (21, AV.int (List.length x15_1 : Int)), (22, AV.int p16.1)], [], [[.slice (.own 41) 2 (List.map Amount.av p16.2)]], [(41, (126, 2, List.length (List.map Amount.av p16.2)))]⟩) (by kernel_rfl) ⟨c133 x24_2.2 (.ret x26_1) hx26_1, trivial⟩ ?_
      refine hN25 _ ?_
      refine awp_sr kpNone [] [] [1, 2, 6, 7, 20, 21, 22, 35] (cs := []) (st' := ⟨47, [(1, .inp [.func gf1 gc1]), (2, .extp 0 0), (6, AV.str x22_0), (7, AV.int x24_2.1), (20, AV.lst 1 AV.str x15_1), (21, AV.int (List.length x15_1 : Int)), (22, AV.int p16.1), (35, AV.bool (decide ((0 : Int) < x24_2.1)))], [], [[.slice (.own 41) 2 (List.map Amount.av p16.2)]], [(41, (126, 2, List.length (List.map Amount.av p16.2)))]⟩) (by kernel_rfl) trivial ?_
      refine awp_to (σ := List Amount) (fun p29 => ⟨47, [(1, .inp [.func gf1 gc1]), (2, .extp 0 0), (20, AV.lst 1 AV.str x15_1), (21, AV.int (List.length x15_1 : Int)), (22, AV.int p16.1)], [], [[.slice (.own 41) 2 (List.map Amount.av p29)]], [(41, (126, 2, List.length (List.map Amount.av p29)))]⟩) (fun p29 => F270.j29 rec16 p16 p29 = some r) (fun p29 h => ?_) (fun N29 hJ29 => ?_)
      · unfold F270.j29 at h
        refine hN20 _ ?_
        refine awp_reg kpNone [] [] [1, 2, 20, 21, 22] (cs := []) (st' := ⟨47, [(1, .inp [.func gf1 gc1]), (2, .extp 0 0), (20, AV.lst 1 AV.str x15_1), (21, AV.int (List.length x15_1 : Int)), (22, AV.int (w64 (p16.1 + (1 : Int))))], [], [[.slice (.own 41) 2 (List.map Amount.av p29)]], [(41, (126, 2, List.length (List.map Amount.av p29)))]⟩) (by kernel_rfl) trivial ?_
        refine awpL_le ?_ (hrec16 _ h)
        exact Le.rfl'
      · refine awp_cond (t := decide ((0 : Int) < x24_2.1)) rfl (fun hb => ?_) (fun hb => ?_)
        · rw [if_pos hb] at h
          obtain ⟨hp31_5, h⟩ := guardP h
          refine awp_reg kpNone [(5, AV.lst 2 Amount.av (p16.2 ++ [(⟨x22_0, x24_2.1⟩ : Amount)]))] [] [1, 2, 20, 21, 22] (cs := [(List.length (List.map Amount.av p16.2) = List.length (List.map Amount.av p16.2)), (List.length (List.map Amount.av (p16.2 ++ [(⟨x22_0, x24_2.1⟩ : Amount)])) * 24 ≤ 140737488355328), (List.length (List.map Amount.av (p16.2 ++ [(⟨x22_0, x24_2.1⟩ : Amount)])) ≤ 140737488355328), (List.map Amount.av p16.2 ++ List.map Amount.av [(⟨x22_0, x24_2.1⟩ : Amount)] = List.map Amount.av (p16.2 ++ [(⟨x22_0, x24_2.1⟩ : Amount)]))]) (st' := ⟨47, [(1, .inp [.func gf1 gc1]), (2, .extp 0 0), (20, AV.lst 1 AV.str x15_1), (21, AV.int (List.length x15_1 : Int)), (22, AV.int p16.1)], [], [[.slice (.own 41) 2 (List.map Amount.av (p16.2 ++ [(⟨x22_0, x24_2.1⟩ : Amount)]))]], [(41, (126, 2, List.length (List.map Amount.av (p16.2 ++ [(⟨x22_0, x24_2.1⟩ : Amount)])))), (40, (126, 2, 1))]⟩) (by kernel_rfl) ⟨by simp only [List.length_map, List.length_cons, List.length_nil], len_mul _ _ _ _ hp31_5.1, len_ge _ _ hp31_5.2, lst_app _ _ _, trivial⟩ ?_
          exact hJ29 (p16.2 ++ [(⟨x22_0, x24_2.1⟩ : Amount)]) _ h (Le.mk rfl ⟨rfl, rfl, .inl rfl, rfl, rfl, trivial⟩ trivial ⟨rfl, trivial⟩ ⟨⟨.inl ⟨rfl, rfl⟩, trivial⟩, trivial⟩)
        · rw [if_false hb] at h
          refine awp_skip ?_
          exact hJ29 p16.2 _ h (Le.mk rfl ⟨rfl, rfl, .inl rfl, rfl, rfl, trivial⟩ trivial ⟨rfl, trivial⟩ ⟨⟨.inl ⟨rfl, rfl⟩, trivial⟩, trivial⟩)
    · rw [if_false hb] at h
      refine awp_exit ?_
      refine hN13 _ ?_
      refine awp_sr kpNone [(1, AV.int (List.length p16.2 : Int))] [] [45] (cs := [((AV.int (List.length p16.2 : Int) = .val (.int .i64 (List.length (List.map Amount.av p16.2) : Int))))]) (st' := ⟨47, [(45, AV.bool (decide ((8 : Int) < (List.length p16.2 : Int))))], [], [[.slice (.own 41) 2 (List.map Amount.av p16.2)]], [(41, (126, 2, List.length (List.map Amount.av p16.2)))]⟩) (by kernel_rfl) ⟨len_map _ _, trivial⟩ ?_
      refine awp_to (σ := Unit) (fun p34 => ⟨47, [], [], [[.slice (.own 41) 2 (List.map Amount.av p16.2)]], [(41, (126, 2, List.length (List.map Amount.av p16.2)))]⟩) (fun p34 => F270.j34 p16 p34 = some r) (fun p34 h => ?_) (fun N34 hJ34 => ?_)
      · unfold F270.j34 at h
        have h := Option.some.inj h
        subst h
        try simp only [thenA, blockA, eq_self, if_true]
        exact (show endQ _ _ _ .normal _ from ⟨[], by kernel_rfl, ⟨(Lw.refl _), ⟨⟨(Lw.refl _), trivial⟩, trivial⟩⟩⟩)
      · refine awp_cond (t := decide ((8 : Int) < (List.length p16.2 : Int))) rfl (fun hb => ?_) (fun hb => ?_)
        · rw [if_pos hb] at h
          rcases thnX_some h with ⟨e, hx35_0, h⟩ | ⟨x35_0, hx35_0, h⟩
          · have h := Option.some.inj h; subst h
            refine awp_panT kpNone [] [] 0 (v := AV.iface 279 (.agg [AV.int e])) (cs := [(Det Tryz.prog 133 [AV.int 4] (.panic (AV.iface 279 (.agg [AV.int e]))))]) (st' := ⟨47, [], [], [[.slice (.own 41) 2 (List.map Amount.av p16.2)]], [(41, (126, 2, List.length (List.map Amount.av p16.2)))]⟩) (by kernel_rfl) ⟨c133 4 (.stop e) hx35_0, trivial⟩ ?_
            exact ⟨(Lw.refl _), ⟨⟨(Lw.refl _), trivial⟩, trivial⟩⟩
          refine awp_reg kpNone [(0, .tuple [])] [] [] (cs := [(Det Tryz.prog 133 [AV.int 4] (.ret (.tuple [])))]) (st' := ⟨47, [], [], [[.slice (.own 41) 2 (List.map Amount.av p16.2)]], [(41, (126, 2, List.length (List.map Amount.av p16.2)))]⟩) (by kernel_rfl) ⟨c133 4 (.ret x35_0) hx35_0, trivial⟩ ?_
          exact hJ34 () _ h (Le.rfl')
        · rw [if_false hb] at h
          refine awp_skip ?_
          exact hJ34 () _ h (Le.mk rfl trivial trivial ⟨rfl, trivial⟩ ⟨⟨.inl ⟨rfl, rfl⟩, trivial⟩, trivial⟩)
def A270.l16 (a0 : (List (List Amount))) (g1 : Str → Option (Int × Int)) (x15_1 : (List Str)) : (Int × List Amount) → Option ((Res Unit) × (List Amount)) := iterL (F270.l16 x15_1 g1) 4096
def A270.l4 (a0 : (List (List Amount))) (g1 : Str → Option (Int × Int)) (l16 : ((List Str)) → (Int × List Amount) → Option ((Res Unit) × (List Amount))) : (Int) → Option ((Res Unit) × (List Amount)) := iterL (F270.l4 a0 l16) 4096
def A270 (a0 : (List (List Amount))) (g1 : Str → Option (Int × Int)) : Option ((Res Unit) × (List Amount)) := F270 (A270.l16 a0 g1) (A270.l4 a0 g1) a0 g1
theorem d270 (a0 : (List (List Amount))) (g1 : Str → Option (Int × Int)) (gf1 : FuncId) (gc1 : List AV) (hc1 : List.map AV.cl0 gc1 = gc1) (hg1 : ∀ (y0 : Str) (r : (Int × Int)), g1 y0 = some r → Det Tryz.prog gf1 ((AV.str y0) :: List.map AV.cl gc1) (.ret (.tuple [AV.int r.1, AV.int r.2]))) (r : ((Res Unit) × (List Amount))) (h : A270 a0 g1 = some r) :
    DetX Tryz.prog 270 [.inp [AV.lst 1 (AV.lst 2 Amount.av) a0], .inp [.func gf1 gc1], .extp 0 0] [[.nils]] (Res.out 279 (fun q => .tuple []) r.1) [[AV.lst 2 Amount.av r.2]] := by
  exact c270 a0 g1 gf1 gc1 hc1 hg1 (A270.l16 a0 g1) (A270.l4 a0 g1) (fun _ => rounds_iter _ _) (fun _ => rounds_iter _ _) r h


-- res.made
def F174 (g0 : Str → Option (Int × Int)) (a1 : (List (List Amount))) : Option ((List Amount) × Int) :=
  (A270 a1 g0).bind fun x6_1 => if decide (¬ (tryCode x6_1.1) = (0 : Int)) = true then (some (([] : (List Amount)), tryCode x6_1.1)) else (some (x6_1.2, 0))
/-- ballast/res.made -/
theorem c174 (g0 : Str → Option (Int × Int)) (gf0 : FuncId) (u0_0 u0_1 : List AV) (hg0 : ∀ (y0 : Str) (r : (Int × Int)), g0 y0 = some r → Det Tryz.prog gf0 ((AV.str y0) :: List.map AV.cl [.inp u0_0, .inp u0_1]) (.ret (.tuple [AV.int r.1, AV.int r.2]))) (a1 : (List (List Amount))) (r : ((List Amount) × Int)) (h : F174 g0 a1 = some r) :
    Det Tryz.prog 174 [.func gf0 [.inp u0_0, .inp u0_1], AV.lst 1 (AV.lst 2 Amount.av) a1] (.ret (.tuple [AV.lst 2 Amount.av r.1, AV.int r.2])) := by
  refine Det.of_le ?_
  refine @calls_of_body Tryz.prog 174 Tryz.f174 _ Tryz.func174 rfl (by kernel_rfl) [.tmp 4, .tmp 5] (by rw [Tryz.results174]) 14 Tryz.ntmps174 _ _ _ (by simp only [List.length_cons, List.length_nil]; decide) ?_
  unfold F174 at h
  refine awp_sr (fun i => i == 6) [] [] [2, 3] (cs := []) (st' := ⟨14, [(2, .varp 2 0), (3, .varp 3 0)], [(3, (false, [AV.lst 1 (AV.lst 2 Amount.av) a1])), (2, (false, [.func gf0 [.inp u0_0, .inp u0_1]]))], [], []⟩) (by kernel_rfl) trivial ?_
  refine awp_sr (fun i => i == 6) [] [] [2, 3, 6] (cs := []) (st' := ⟨14, [(2, .varp 2 0), (3, .varp 3 0), (6, .varp 6 0)], [(6, (false, [.nils])), (3, (false, [AV.lst 1 (AV.lst 2 Amount.av) a1])), (2, (false, [.func gf0 [.inp u0_0, .inp u0_1]]))], [], []⟩) (by kernel_rfl) trivial ?_
  refine awp_seq fun N5 hN5 => ?_
  obtain ⟨x6_1, hx6_1, h⟩ := Option.bind_eq_some_iff.1 h
  refine awp_regX (fun i => i == 6) [] [] [6, 7] 1 [6] [[AV.lst 2 Amount.av x6_1.2]] (AV.int (tryCode x6_1.1)) (by decide) (cs := [(DetX Tryz.prog 113 [.func 270 [.inp [AV.lst 1 (AV.lst 2 Amount.av) a1], .inp [.func gf0 [.inp u0_0, .inp u0_1]], .extp 0 0]] [[.nils]] (.ret (AV.int (tryCode x6_1.1))) [[AV.lst 2 Amount.av x6_1.2]])]) (st' := ⟨14, [(6, .varp 6 0), (7, AV.int (tryCode x6_1.1))], [(6, (false, [AV.lst 2 Amount.av x6_1.2])), (2, (true, [.func gf0 [.inp u0_0, .inp u0_1]])), (3, (true, [AV.lst 1 (AV.lst 2 Amount.av) a1]))], [], []⟩) (by kernel_rfl) ⟨try_any (d270 a1 g0 gf0 [.inp u0_0, .inp u0_1] rfl hg0 x6_1 hx6_1), trivial⟩ ?_
  refine hN5 _ ?_
  refine awp_seq fun N7 hN7 => ?_
  refine awp_sr (fun i => i == 6) [] [] [6, 7, 11] (cs := []) (st' := ⟨14, [(6, .varp 6 0), (7, AV.int (tryCode x6_1.1)), (11, AV.bool (decide (¬ (tryCode x6_1.1) = (0 : Int))))], [(6, (false, [AV.lst 2 Amount.av x6_1.2])), (2, (true, [.func gf0 [.inp u0_0, .inp u0_1]])), (3, (true, [AV.lst 1 (AV.lst 2 Amount.av) a1]))], [], []⟩) (by kernel_rfl) trivial ?_
  refine awp_cond (t := decide (¬ (tryCode x6_1.1) = (0 : Int))) rfl (fun hb => ?_) (fun hb => ?_)
  · rw [if_pos hb] at h
    refine awp_sr (fun i => i == 6) [] [] [4, 5] (cs := []) (st' := ⟨14, [(4, .nils), (5, AV.int (tryCode x6_1.1))], [(6, (false, [AV.lst 2 Amount.av x6_1.2])), (2, (true, [.func gf0 [.inp u0_0, .inp u0_1]])), (3, (true, [AV.lst 1 (AV.lst 2 Amount.av) a1]))], [], []⟩) (by kernel_rfl) trivial ?_
    have h := Option.some.inj h
    subst h
    exact awp_ret ⟨[.nils, AV.int (tryCode x6_1.1)], by kernel_rfl, Lw.tupleL ⟨(Lw.nils _), (Lw.refl _), trivial⟩⟩
  · rw [if_false hb] at h
    refine awp_skip ?_
    refine hN7 _ ?_
    refine awp_sr (fun i => i == 6) [] [] [4, 5] (cs := []) (st' := ⟨14, [(4, AV.lst 2 Amount.av x6_1.2), (5, AV.int 0)], [(6, (false, [AV.lst 2 Amount.av x6_1.2])), (2, (true, [.func gf0 [.inp u0_0, .inp u0_1]])), (3, (true, [AV.lst 1 (AV.lst 2 Amount.av) a1]))], [], []⟩) (by kernel_rfl) trivial ?_
    have h := Option.some.inj h
    subst h
    exact awp_ret ⟨[AV.lst 2 Amount.av x6_1.2, AV.int 0], by kernel_rfl, Lw.refl _⟩


-- res.Add
def F73 (a0 : (List Amount)) (a1 : (List Amount)) : Option ((List Amount) × Int) :=
  (F174 (fun y0 => F175 y0 a0 a1) [a0, a1]).bind fun x4_4 => some (x4_4.1, x4_4.2)
/-- ballast/res.Add -/
theorem c73 (a0 : (List Amount)) (a1 : (List Amount)) (r : ((List Amount) × Int)) (h : F73 a0 a1 = some r) :
    Det Tryz.prog 73 [AV.lst 2 Amount.av a0, AV.lst 2 Amount.av a1] (.ret (.tuple [AV.lst 2 Amount.av r.1, AV.int r.2])) := by
  refine Det.of_le ?_
  refine @calls_of_body Tryz.prog 73 Tryz.f73 _ Tryz.func73 rfl (by kernel_rfl) [.tmp 4, .tmp 5] (by rw [Tryz.results73]) 13 Tryz.ntmps73 _ _ _ (by simp only [List.length_cons, List.length_nil]; decide) ?_
  unfold F73 at h
  refine awp_sr kpNone [] [] [2, 3] (cs := []) (st' := ⟨13, [(2, .varp 2 0), (3, .varp 3 0)], [(3, (false, [AV.lst 2 Amount.av a1])), (2, (false, [AV.lst 2 Amount.av a0]))], [], []⟩) (by kernel_rfl) trivial ?_
  obtain ⟨x4_4, hx4_4, h⟩ := Option.bind_eq_some_iff.1 h
  refine awp_sr kpNone [(4, .tuple [AV.lst 2 Amount.av x4_4.1, AV.int x4_4.2])] [] [4, 5] (cs := [(Det Tryz.prog 174 [.func 175 [.inp [AV.lst 2 Amount.av a0], .inp [AV.lst 2 Amount.av a1]], AV.lst 1 (AV.lst 2 Amount.av) [a0, a1]] (.ret (.tuple [AV.lst 2 Amount.av x4_4.1, AV.int x4_4.2])))]) (st' := ⟨13, [(4, AV.lst 2 Amount.av x4_4.1), (5, AV.int x4_4.2)], [(3, (true, [AV.lst 2 Amount.av a1])), (2, (true, [AV.lst 2 Amount.av a0]))], [], [(9, (37, 1, 2))]⟩) (by kernel_rfl) ⟨c174 (fun y0 => F175 y0 a0 a1) 175 [AV.lst 2 Amount.av a0] [AV.lst 2 Amount.av a1] (fun y0 _ hy => c175 y0 a0 a1 _ hy) [a0, a1] _ hx4_4, trivial⟩ ?_
  have h := Option.some.inj h
  subst h
  exact awp_ret ⟨[AV.lst 2 Amount.av x4_4.1, AV.int x4_4.2], by kernel_rfl, Lw.refl _⟩


-- node.Take[res.Vec]
def F152 (a0 : (List Amount)) (a1 : Int) : Option (Res (List Amount)) :=
  thn (F133 a1) fun x4_1 => some (.ret a0)
/-- ballast/node.Take[ballast/res.Vec] -/
theorem c152 (a0 : (List Amount)) (a1 : Int) (r : (Res (List Amount))) (h : F152 a0 a1 = some r) :
    Det Tryz.prog 152 [AV.lst 2 Amount.av a0, AV.int a1] (Res.out 279 (fun r => AV.lst 2 Amount.av r) r) := by
  refine Det.of_le ?_
  refine @calls_of_body Tryz.prog 152 Tryz.f152 _ Tryz.func152 rfl (by kernel_rfl) [.tmp 4] (by rw [Tryz.results152]) 8 Tryz.ntmps152 _ _ _ (by simp only [List.length_cons, List.length_nil]; decide) ?_
  unfold F152 at h
  refine awp_sr kpNone [] [] [0, 1] (cs := []) (st' := ⟨8, [(0, AV.lst 2 Amount.av a0), (1, AV.int a1)], [], [], []⟩) (by kernel_rfl) trivial ?_
  refine awp_seq fun N3 hN3 => ?_
  rcases thn_some h with ⟨e, hx4_1, hr⟩ | ⟨x4_1, hx4_1, h⟩
  · subst hr
    refine awp_panT kpNone [] [] 1 (v := AV.iface 279 (.agg [AV.int e])) (cs := [(Det Tryz.prog 133 [AV.int a1] (.panic (AV.iface 279 (.agg [AV.int e]))))]) (st' := ⟨8, [], [], [], []⟩) (by kernel_rfl) ⟨c133 a1 (.stop e) hx4_1, trivial⟩ ?_
    exact Lw.refl _
  refine awp_reg kpNone [(1, .tuple [])] [] [0] (cs := [(Det Tryz.prog 133 [AV.int a1] (.ret (.tuple [])))]) (st' := ⟨8, [(0, AV.lst 2 Amount.av a0)], [], [], []⟩) (by kernel_rfl) ⟨c133 a1 (.ret x4_1) hx4_1, trivial⟩ ?_
  refine hN3 _ ?_
  refine awp_sr kpNone [] [] [4] (cs := []) (st' := ⟨8, [(4, AV.lst 2 Amount.av a0)], [], [], []⟩) (by kernel_rfl) trivial ?_
  have h := Option.some.inj h
  subst h
  exact awp_ret ⟨[AV.lst 2 Amount.av a0], by kernel_rfl, Lw.refl _⟩


-- state.sum[pod.Pod]$1
def F255.l3 (a0 : (List Pod)) (g2 : Pod → Option (List Amount)) (rec3 : (Int × List Amount) → Option ((Res Unit) × (List Amount))) : (Int × List Amount) → Option ((Res Unit) × (List Amount)) := fun p3 =>
  if decide (p3.1 < (List.length a0 : Int)) = true then ((getI a0 p3.1).bind fun x9_0 => (g2 x9_0).bind fun x10_3 => (F73 p3.2 x10_3).bind fun x10_4 => thnX (F152 x10_4.1 x10_4.2) (fun e => some (.stop e, p3.2)) fun x10_7 => rec3 (w64 (p3.1 + (1 : Int)), x10_7)) else (some ((.ret ()), p3.2))
def F255 (l3 : (Int × List Amount) → Option ((Res Unit) × (List Amount))) (a0 : (List Pod)) (a1 : (List Amount)) (g2 : Pod → Option (List Amount)) : Option ((Res Unit) × (List Amount)) :=
  l3 (0, a1)
/-- ballast/state.sum[ballast/pod.Pod]$1 -/
theorem c255 (a0 : (List Pod)) (a1 : (List Amount)) (g2 : Pod → Option (List Amount)) (gf2 : FuncId) (gc2 : List AV) (hc2 : List.map AV.cl0 gc2 = gc2) (hg2 : ∀ (y0 : Pod) (r : (List Amount)), g2 y0 = some r → Det Tryz.prog gf2 ((Pod.av y0) :: List.map AV.cl gc2) (.ret (AV.lst 2 Amount.av r))) (l3 : (Int × List Amount) → Option ((Res Unit) × (List Amount))) (hl3 : Rounds (F255.l3 a0 g2) (l3)) (r : ((Res Unit) × (List Amount))) (h : F255 l3 a0 a1 g2 = some r) :
    DetX Tryz.prog 255 [.inp [AV.lst 11 Pod.av a0], .extp 0 0, .inp [.func gf2 gc2]] [[AV.lst 2 Amount.av a1]] (Res.out 279 (fun q => .tuple []) r.1) [[AV.lst 2 Amount.av r.2]] := by
  refine DetX.of_le ?_
  refine @calls_of_body Tryz.prog 255 Tryz.f255 _ Tryz.func255 rfl (by kernel_rfl) [] (by rw [Tryz.results255]) 20 Tryz.ntmps255 _ _ _ (by simp only [List.length_cons, List.length_nil]; decide) ?_
  unfold F255 at h
  refine awp_sr kpNone [(1, AV.int (List.length a0 : Int))] [] [1, 2, 5, 6, 7] (cs := [((AV.int (List.length a0 : Int) = .val (.int .i64 (List.length (List.map Pod.av a0) : Int))))]) (st' := ⟨20, [(1, .extp 0 0), (2, .inp [.func gf2 gc2]), (5, AV.lst 11 Pod.av a0), (6, AV.int (List.length a0 : Int)), (7, AV.int 0)], [], [[AV.lst 2 Amount.av a1]], []⟩) (by kernel_rfl) ⟨len_map _ _, trivial⟩ ?_
  refine awp_block ?_
  refine awp_loop ?_
  refine awpL_le (st' := ⟨20, [(1, .extp 0 0), (2, .inp [.func gf2 gc2]), (5, AV.lst 11 Pod.av a0), (6, AV.int (List.length a0 : Int)), (7, AV.int 0)], [], [[AV.lst 2 Amount.av a1]], []⟩) ?_ ?_
  · exact Le.rfl'
  refine awpL_fix hl3 r (fun p3 => ⟨20, [(1, .extp 0 0), (2, .inp [.func gf2 gc2]), (5, AV.lst 11 Pod.av a0), (6, AV.int (List.length a0 : Int)), (7, AV.int p3.1)], [], [[AV.lst 2 Amount.av p3.2]], []⟩) (fun rec3 hrec3 p3 h => ?_) (0, a1) h
  unfold F255.l3 at h
  refine awpL_round ?_
  refine awp_sr kpNone [] [] [1, 2, 5, 6, 7, 8] (cs := []) (st' := ⟨20, [(1, .extp 0 0), (2, .inp [.func gf2 gc2]), (5, AV.lst 11 Pod.av a0), (6, AV.int (List.length a0 : Int)), (7, AV.int p3.1), (8, AV.bool (decide (p3.1 < (List.length a0 : Int))))], [], [[AV.lst 2 Amount.av p3.2]], []⟩) (by kernel_rfl) trivial ?_
  refine awp_seq fun N6 hN6 => ?_
  refine awp_cond (t := decide (p3.1 < (List.length a0 : Int))) rfl (fun hb => ?_) (fun hb => ?_)
  · rw [if_pos hb] at h
    refine awp_skip ?_
    refine hN6 _ ?_
    refine awp_seq fun N7 hN7 => ?_
    refine awp_block ?_
    obtain ⟨x9_0, hx9_0, h⟩ := Option.bind_eq_some_iff.1 h
    refine awp_sr kpNone [(0, Pod.av x9_0)] [] [1, 2, 4, 5, 6, 7] (cs := [(0 ≤ p3.1), ((List.map Pod.av a0)[Int.toNat p3.1]? = some (Pod.av x9_0))]) (st' := ⟨20, [(1, .extp 0 0), (2, .inp [.func gf2 gc2]), (4, .varp 4 0), (5, AV.lst 11 Pod.av a0), (6, AV.int (List.length a0 : Int)), (7, AV.int p3.1)], [(4, (false, x9_0.cs))], [[AV.lst 2 Amount.av p3.2]], []⟩) (by kernel_rfl) ⟨getI_le hx9_0, getI_map hx9_0 _, trivial⟩ ?_
    obtain ⟨x10_3, hx10_3, h⟩ := Option.bind_eq_some_iff.1 h
    obtain ⟨x10_4, hx10_4, h⟩ := Option.bind_eq_some_iff.1 h
    rcases thnX_some h with ⟨e, hx10_7, h⟩ | ⟨x10_7, hx10_7, h⟩
    · have h := Option.some.inj h; subst h
      refine awp_panD mixedTryz kpNone [(3, AV.lst 2 Amount.av x10_3), (4, .tuple [AV.lst 2 Amount.av x10_4.1, AV.int x10_4.2])] [] 7 (v := AV.iface 279 (.agg [AV.int e])) (cs := [(Det Tryz.prog 152 [AV.lst 2 Amount.av x10_4.1, AV.int x10_4.2] (.panic (AV.iface 279 (.agg [AV.int e])))), (Det Tryz.prog gf2 ((Pod.av x9_0) :: List.map AV.cl gc2) (.ret (AV.lst 2 Amount.av x10_3))), (Det Tryz.prog 73 [AV.lst 2 Amount.av p3.2, AV.lst 2 Amount.av x10_3] (.ret (.tuple [AV.lst 2 Amount.av x10_4.1, AV.int x10_4.2])))]) (E := [[AV.lst 2 Amount.av p3.2]]) (by kernel_rfl) (by kernel_rfl) ⟨c152 x10_4.1 x10_4.2 (.stop e) hx10_7, hg2 x9_0 _ hx10_3, c73 p3.2 x10_3 _ hx10_4, trivial⟩ ?_
      rintro ⟨_, _, _, ex, _⟩ hs
      change ex = _ at hs
      subst hs
      exact ⟨(Lw.refl _), ⟨⟨(Lw.refl _), trivial⟩, trivial⟩⟩
    refine awp_regD mixedTryz kpNone [(3, AV.lst 2 Amount.av x10_3), (4, .tuple [AV.lst 2 Amount.av x10_4.1, AV.int x10_4.2]), (7, AV.lst 2 Amount.av x10_7)] [] [1, 2, 5, 6, 7] (by kernel_rfl) (cs := [(Det Tryz.prog gf2 ((Pod.av x9_0) :: List.map AV.cl gc2) (.ret (AV.lst 2 Amount.av x10_3))), (Det Tryz.prog 73 [AV.lst 2 Amount.av p3.2, AV.lst 2 Amount.av x10_3] (.ret (.tuple [AV.lst 2 Amount.av x10_4.1, AV.int x10_4.2]))), (Det Tryz.prog 152 [AV.lst 2 Amount.av x10_4.1, AV.int x10_4.2] (.ret (AV.lst 2 Amount.av x10_7)))]) (st' := ⟨20, [(1, .extp 0 0), (2, .inp [.func gf2 gc2]), (5, AV.lst 11 Pod.av a0), (6, AV.int (List.length a0 : Int)), (7, AV.int p3.1)], [(4, (false, x9_0.cs))], [[AV.lst 2 Amount.av x10_7]], []⟩) (by kernel_rfl) ⟨hg2 x9_0 _ hx10_3, c73 p3.2 x10_3 _ hx10_4, c152 x10_4.1 x10_4.2 (.ret x10_7) hx10_7, trivial⟩ ?_
    refine hN7 _ ?_
    refine awp_reg kpNone [] [] [1, 2, 5, 6, 7] (cs := []) (st' := ⟨20, [(1, .extp 0 0), (2, .inp [.func gf2 gc2]), (5, AV.lst 11 Pod.av a0), (6, AV.int (List.length a0 : Int)), (7, AV.int (w64 (p3.1 + (1 : Int))))], [(4, (false, x9_0.cs))], [[AV.lst 2 Amount.av x10_7]], []⟩) (by kernel_rfl) trivial ?_
    refine awpL_le ?_ (hrec3 _ h)
    exact Le.mk rfl ⟨rfl, rfl, .inl rfl, rfl, rfl, trivial⟩ trivial trivial ⟨⟨.inl rfl, trivial⟩, trivial⟩
  · rw [if_false hb] at h
    refine awp_exit ?_
    have h := Option.some.inj h
    subst h
    try simp only [thenA, blockA, eq_self, if_true]
    exact (show endQ _ _ _ .normal _ from ⟨[], by kernel_rfl, ⟨(Lw.refl _), ⟨⟨(Lw.refl _), trivial⟩, trivial⟩⟩⟩)
def A255.l3 (a0 : (List Pod)) (a1 : (List Amount)) (g2 : Pod → Option (List Amount)) : (Int × List Amount) → Option ((Res Unit) × (List Amount)) := iterL (F255.l3 a0 g2) 4096
def A255 (a0 : (List Pod)) (a1 : (List Amount)) (g2 : Pod → Option (List Amount)) : Option ((Res Unit) × (List Amount)) := F255 (A255.l3 a0 a1 g2) a0 a1 g2
theorem d255 (a0 : (List Pod)) (a1 : (List Amount)) (g2 : Pod → Option (List Amount)) (gf2 : FuncId) (gc2 : List AV) (hc2 : List.map AV.cl0 gc2 = gc2) (hg2 : ∀ (y0 : Pod) (r : (List Amount)), g2 y0 = some r → Det Tryz.prog gf2 ((Pod.av y0) :: List.map AV.cl gc2) (.ret (AV.lst 2 Amount.av r))) (r : ((Res Unit) × (List Amount))) (h : A255 a0 a1 g2 = some r) :
    DetX Tryz.prog 255 [.inp [AV.lst 11 Pod.av a0], .extp 0 0, .inp [.func gf2 gc2]] [[AV.lst 2 Amount.av a1]] (Res.out 279 (fun q => .tuple []) r.1) [[AV.lst 2 Amount.av r.2]] := by
  exact c255 a0 a1 g2 gf2 gc2 hc2 hg2 (A255.l3 a0 a1 g2) (rounds_iter _ _) r h


-- state.sum[pod.Pod]
def F153 (a0 : (List Pod)) (g1 : Pod → Option (List Amount)) : Option ((List Amount) × Int) :=
  (A255 a0 ([] : (List Amount)) g1).bind fun x6_1 => if decide (¬ (tryCode x6_1.1) = (0 : Int)) = true then (some (([] : (List Amount)), tryCode x6_1.1)) else (some (x6_1.2, 0))
/-- ballast/state.sum[ballast/pod.Pod] -/
theorem c153 (a0 : (List Pod)) (g1 : Pod → Option (List Amount)) (gf1 : FuncId) (hg1 : ∀ (y0 : Pod) (r : (List Amount)), g1 y0 = some r → Det Tryz.prog gf1 ((Pod.av y0) :: List.map AV.cl []) (.ret (AV.lst 2 Amount.av r))) (r : ((List Amount) × Int)) (h : F153 a0 g1 = some r) :
    Det Tryz.prog 153 [AV.lst 11 Pod.av a0, .func gf1 []] (.ret (.tuple [AV.lst 2 Amount.av r.1, AV.int r.2])) := by
  refine Det.of_le ?_
  refine @calls_of_body Tryz.prog 153 Tryz.f153 _ Tryz.func153 rfl (by kernel_rfl) [.tmp 4, .tmp 5] (by rw [Tryz.results153]) 14 Tryz.ntmps153 _ _ _ (by simp only [List.length_cons, List.length_nil]; decide) ?_
  unfold F153 at h
  refine awp_sr (fun i => i == 6) [] [] [2, 3] (cs := []) (st' := ⟨14, [(2, .varp 2 0), (3, .varp 3 0)], [(3, (false, [.func gf1 []])), (2, (false, [AV.lst 11 Pod.av a0]))], [], []⟩) (by kernel_rfl) trivial ?_
  refine awp_sr (fun i => i == 6) [] [] [2, 3, 6] (cs := []) (st' := ⟨14, [(2, .varp 2 0), (3, .varp 3 0), (6, .varp 6 0)], [(6, (false, [.nils])), (3, (false, [.func gf1 []])), (2, (false, [AV.lst 11 Pod.av a0]))], [], []⟩) (by kernel_rfl) trivial ?_
  refine awp_seq fun N5 hN5 => ?_
  obtain ⟨x6_1, hx6_1, h⟩ := Option.bind_eq_some_iff.1 h
  refine awp_regX (fun i => i == 6) [] [] [6, 7] 1 [6] [[AV.lst 2 Amount.av x6_1.2]] (AV.int (tryCode x6_1.1)) (by decide) (cs := [(DetX Tryz.prog 113 [.func 255 [.inp [AV.lst 11 Pod.av a0], .extp 0 0, .inp [.func gf1 []]]] [[.nils]] (.ret (AV.int (tryCode x6_1.1))) [[AV.lst 2 Amount.av x6_1.2]])]) (st' := ⟨14, [(6, .varp 6 0), (7, AV.int (tryCode x6_1.1))], [(6, (false, [AV.lst 2 Amount.av x6_1.2])), (3, (true, [.func gf1 []])), (2, (true, [AV.lst 11 Pod.av a0]))], [], []⟩) (by kernel_rfl) ⟨DetX.args (try_any (d255 a0 ([] : (List Amount)) g1 gf1 [] rfl hg1 x6_1 hx6_1)) ⟨Lw.refl _, trivial⟩ ⟨⟨(Lw.nils _), trivial⟩, trivial⟩, trivial⟩ ?_
  refine hN5 _ ?_
  refine awp_seq fun N7 hN7 => ?_
  refine awp_sr (fun i => i == 6) [] [] [6, 7, 11] (cs := []) (st' := ⟨14, [(6, .varp 6 0), (7, AV.int (tryCode x6_1.1)), (11, AV.bool (decide (¬ (tryCode x6_1.1) = (0 : Int))))], [(6, (false, [AV.lst 2 Amount.av x6_1.2])), (3, (true, [.func gf1 []])), (2, (true, [AV.lst 11 Pod.av a0]))], [], []⟩) (by kernel_rfl) trivial ?_
  refine awp_cond (t := decide (¬ (tryCode x6_1.1) = (0 : Int))) rfl (fun hb => ?_) (fun hb => ?_)
  · rw [if_pos hb] at h
    refine awp_sr (fun i => i == 6) [] [] [4, 5] (cs := []) (st' := ⟨14, [(4, .nils), (5, AV.int (tryCode x6_1.1))], [(6, (false, [AV.lst 2 Amount.av x6_1.2])), (3, (true, [.func gf1 []])), (2, (true, [AV.lst 11 Pod.av a0]))], [], []⟩) (by kernel_rfl) trivial ?_
    have h := Option.some.inj h
    subst h
    exact awp_ret ⟨[.nils, AV.int (tryCode x6_1.1)], by kernel_rfl, Lw.tupleL ⟨(Lw.nils _), (Lw.refl _), trivial⟩⟩
  · rw [if_false hb] at h
    refine awp_skip ?_
    refine hN7 _ ?_
    refine awp_sr (fun i => i == 6) [] [] [4, 5] (cs := []) (st' := ⟨14, [(4, AV.lst 2 Amount.av x6_1.2), (5, AV.int 0)], [(6, (false, [AV.lst 2 Amount.av x6_1.2])), (3, (true, [.func gf1 []])), (2, (true, [AV.lst 11 Pod.av a0]))], [], []⟩) (by kernel_rfl) trivial ?_
    have h := Option.some.inj h
    subst h
    exact awp_ret ⟨[AV.lst 2 Amount.av x6_1.2, AV.int 0], by kernel_rfl, Lw.refl _⟩


-- state.Used$1
def F154 (a0 : Pod) : Option (List Amount) :=
  some a0.Need
/-- ballast/state.Used$1 -/
theorem c154 (a0 : Pod) (r : (List Amount)) (h : F154 a0 = some r) :
    Det Tryz.prog 154 [Pod.av a0] (.ret (AV.lst 2 Amount.av r)) := by
  refine Det.of_le ?_
  refine @calls_of_body Tryz.prog 154 Tryz.f154 _ Tryz.func154 rfl (by kernel_rfl) [.tmp 2] (by rw [Tryz.results154]) 5 Tryz.ntmps154 _ _ _ (by simp only [List.length_cons, List.length_nil]; decide) ?_
  unfold F154 at h
  refine awp_sr kpNone [] [] [1] (cs := []) (st' := ⟨5, [(1, .varp 1 0)], [(1, (false, a0.cs))], [], []⟩) (by kernel_rfl) trivial ?_
  refine awp_sr kpNone [] [] [2] (cs := []) (st' := ⟨5, [(2, AV.lst 2 Amount.av a0.Need)], [(1, (false, a0.cs))], [], []⟩) (by kernel_rfl) trivial ?_
  have h := Option.some.inj h
  subst h
  exact awp_ret ⟨[AV.lst 2 Amount.av a0.Need], by kernel_rfl, Lw.refl _⟩


end Go.Proofs.Eng
