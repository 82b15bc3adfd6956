/- 'ballastlaw18.LevelRises': what it computes is true. -/
import Derived.Test.YtdolhcmhdjmoeaaGreatDoorEngX8
import Derived.Test.YtdolhcmhdjmoeaaGreatDoorEngOk
set_option linter.unusedSimpArgs false
set_option linter.unusedVariables false
namespace Go.Proofs.Eng
open Go Go.Proofs

/-! All come to an end. -/
theorem trim_ok (a0 cs : Str) (h : a0.length ≤ 12) (h1 : cs.length < 4294967281) (h2 : cs.all (fun b => decide (b.toNat < 128)) = true) : ∃ r, trimO a0 cs = some r := ⟨_, if_pos ⟨by omega, h1, h2⟩⟩
theorem F274_ok (s : Str) : ∃ b, F274 s = some b := by
  unfold F274
  by_cases q1 : (1 : Int) ≤ s.length
  · by_cases q2 : (s.length : Int) ≤ 12
    · obtain ⟨r, hr⟩ := trim_ok s _ (by omega) (by decide : ([97, 98, 99, 100, 101, 102, 103, 104, 105, 106, 107, 108, 109, 110, 111, 112, 113, 114, 115, 116, 117, 118, 119, 120, 121, 122, 48, 49, 50, 51, 52, 53, 54, 55, 56, 57] : Str).length < 4294967281) (by decide)
      simp only [q1, q2, hr, decide_true, if_true, Option.bind_some, F274.j7]
      exact ⟨_, rfl⟩
    · simp [q1, q2, F274.j7]
  · simp [q1, F274.j7]
theorem A186_ok (a : List Amount) : ∃ e, A186 a = some e ∧ (e = 0 → a.length ≤ 8) := by
  unfold A186 F186
  by_cases q : (8 : Int) < a.length
  · simp only [q, decide_true, if_true]
    exact ⟨4, rfl, fun h => absurd h (by decide)⟩
  · simp only [q, decide_false, Bool.false_eq_true, _root_.if_false]
    have : ∃ r, iterL (F186.l11 a) 4096 ((fun (_ : Unit) p => p) () 0) = some r ∧ True := by
      refine iter_ok a 4096 (by omega) (by omega) (fun (_ : Unit) p => p) _ (fun _ _ => True) (fun _ => True) ?_ ?_ () trivial
      · intro rec b _
        simp only [F186.l11]
        simp
      · intro rec p b x t h0 h1 hx hm hw _ hr
        obtain ⟨n, hn⟩ := F274_ok x.Name
        obtain ⟨r, hr, _⟩ := hr () trivial
        have hr2 : ∀ b, ∃ r, F186.j29 rec p b = some r ∧ True := by
          intro b
          simp only [F186.j29, hw]
          cases b
          · exact ⟨r, by simpa using hr, trivial⟩
          · exact ⟨13, rfl, trivial⟩
        simp only [F186.l11, h1, hx, hn, decide_true, if_true, Option.bind_some]
        cases n
        · exact ⟨3, rfl, trivial⟩
        · by_cases q1 : x.N ≤ 0
          · simp [q1]
          · simp only [q1, decide_false, Bool.not_true, Bool.false_eq_true, _root_.if_false]
            by_cases q2 : 0 < p
            · obtain ⟨y, hy, _⟩ := getI_ex (l := a) (p := w64 (p - 1)) (by rw [w64_of (by omega) (by omega)]; omega) (by rw [w64_of (by omega) (by omega)]; omega)
              simp only [q2, decide_true, if_true, hy, Option.bind_some]
              exact hr2 _
            · simp only [q2, decide_false, Bool.false_eq_true, _root_.if_false]
              exact hr2 _
    obtain ⟨r, hr, _⟩ := this
    exact ⟨r, hr, fun _ => by omega⟩
theorem F78_ok (a : List Amount) (s : Str) : ∃ n, F78 a s = some n := by
  unfold F78
  obtain ⟨j, hj, hr⟩ := idxF_ok (fun y0 => F179 y0 s) a 0 fun x _ => ⟨_, rfl⟩
  simp only [hj, Option.bind_some]
  by_cases q : j < 0
  · simp [q]
  · obtain ⟨x, hx, _⟩ := getI_ex (l := a) (p := j) (by omega) (by omega)
    simp [q, hx]
theorem F175_ok (s : Str) (a b : List Amount) : ∃ r, F175 s a b = some r := by
  obtain ⟨x, hx⟩ := F78_ok a s
  obtain ⟨y, hy⟩ := F78_ok b s
  have h1 : ∃ r, F272 x y = some r := by
    unfold F272
    split <;> exact ⟨_, rfl⟩
  obtain ⟨e, he⟩ := h1
  have h2 : ∃ r, F273 (IntKind.wrap .u64 ((IntKind.wrap .u64 x) + (IntKind.wrap .u64 y))) false = some r := by
    unfold F273
    split <;> exact ⟨_, rfl⟩
  obtain ⟨u, hu⟩ := h2
  simp only [F175, hx, hy, Option.bind_some, F176, he, hu]
  by_cases q : e = 0
  · simp [q]
  · simp [q]
theorem compS_len (l : List Str) : (compS l).length ≤ l.length := by
  unfold compS Lib.compact Lib.compactUpTo
  simp only [List.length_map]
  exact Nat.le_trans (List.length_filter_le _ _) (by simp)
theorem A271_ok (a b : List Amount) (ha : a.length ≤ 8) (hb : b.length ≤ 8) : ∃ r, A271 [a, b] = some r ∧ r.length ≤ 16 := by
  unfold A271 F271
  refine iter_ok (β := List Str) [a, b] 4096 (by simp) (by omega) (fun b p => (b, p)) _ (fun o t => o.length + 8 * t.length ≤ 16) _ ?_ ?_ [] (by simp)
  · intro rec o ho
    simp only [List.length_nil] at ho
    simp only [A271.l17, F271.l8, Int.lt_irrefl, decide_false, Bool.false_eq_true, _root_.if_false]
    rw [if_pos (by omega), if_pos (by rw [sortS_len]; omega)]
    refine ⟨_, rfl, ?_⟩
    have := compS_len (sortS o)
    rw [sortS_len] at this
    omega
  · intro rec p o x t h0 h1 hx hm hw ho hr
    simp only [F271.l8, h1, hx, decide_true, if_true, Option.bind_some, A271.l17]
    have hxl : x.length ≤ 8 := by
      simp only [List.mem_cons, List.not_mem_nil, or_false] at hm
      rcases hm with rfl | rfl
      · exact ha
      · exact hb
    simp only [List.length_cons] at ho
    refine iter_ok (β := List Str) x 4096 (by omega) (by omega) (fun b p => (b, p)) _ (fun o' t' => o'.length + t'.length + 8 * t.length ≤ 16) _ ?_ ?_ o (by omega)
    · intro rec2 o2 ho2
      simp only [F271.l17, Int.lt_irrefl, decide_false, Bool.false_eq_true, _root_.if_false, hw]
      exact hr o2 (by simpa using ho2)
    · intro rec2 p2 o2 x2 t2 h02 h12 hx2 hm2 hw2 ho2 hr2
      simp only [List.length_cons] at ho2
      simp only [F271.l17, h12, hx2, decide_true, if_true, Option.bind_some, hw2]
      rw [if_pos (by simp only [List.length_append, List.length_cons, List.length_nil]; omega)]
      exact hr2 _ (by simp only [List.length_append, List.length_cons, List.length_nil]; omega)
theorem stop_ok {β : Type} (e : Int) (s : Int → Option β) (f : Unit → Option β) (hs : ∃ r, s e = some r) (hf : e = 0 → ∃ r, f () = some r) : ∃ r, thnX (F133 e) s f = some r := by
  unfold F133
  by_cases q : e = 0
  · simpa [q, thnX] using hf q
  · simpa [q, thnX] using hs
theorem A270_ok (a b : List Amount) (g : Str → Option (Int × Int)) (hg : ∀ s, ∃ r, g s = some r) : ∃ r, A270 [a, b] g = some r := by
  unfold A270 F270
  have : ∃ r, iterL (F270.l4 [a, b] (A270.l16 [a, b] g)) 4096 ((fun (_ : Unit) p => p) () 0) = some r ∧ True := by
    refine iter_ok [a, b] 4096 (by simp) (by omega) (fun (_ : Unit) p => p) _ (fun _ t => ∀ x, x ∈ [a, b] → x ∈ t ∨ x.length ≤ 8) _ ?_ ?_ () (fun x hx => .inl hx)
    · intro rec _ hI
      have ha : a.length ≤ 8 := by simpa using hI a (by simp)
      have hb : b.length ≤ 8 := by simpa using hI b (by simp)
      obtain ⟨ns, hns, hl⟩ := A271_ok a b ha hb
      simp only [F270.l4, Int.lt_irrefl, decide_false, Bool.false_eq_true, _root_.if_false, hns, Option.bind_some, A270.l16]
      refine iter_ok (β := List Amount) ns 4096 (by omega) (by omega) (fun o p => (p, o)) _ (fun o t => o.length + t.length ≤ 16) _ ?_ ?_ [] (by simpa using hl)
      · intro rec2 o ho
        simp only [F270.l16, Int.lt_irrefl, decide_false, Bool.false_eq_true, _root_.if_false]
        by_cases q : (8 : Int) < o.length
        · simp only [q, decide_true, if_true]
          obtain ⟨r, hr⟩ := stop_ok 4 (fun e => some ((.stop e : Res Unit), o)) (fun _ => F270.j34 ([(List.length ns : Int)].headD 0, o) ()) ⟨_, rfl⟩ (fun _ => ⟨_, rfl⟩)
          exact ⟨r, hr, trivial⟩
        · simp only [q, decide_false, Bool.false_eq_true, _root_.if_false, F270.j34]
          exact ⟨_, rfl, trivial⟩
      · intro rec2 p o x t h0 h1 hx hm hw ho hr
        obtain ⟨gr, hgr⟩ := hg x
        simp only [List.length_cons] at ho
        simp only [F270.l16, h1, hx, hgr, decide_true, if_true, Option.bind_some, F270.j29, hw]
        obtain ⟨r, hr⟩ := stop_ok gr.2 (fun e => some ((.stop e : Res Unit), o)) (fun _ => if decide ((0 : Int) < gr.1) = true then (if fits 24 (List.length (o ++ [(⟨x, gr.1⟩ : Amount)])) then (rec2 (p + 1, o ++ [(⟨x, gr.1⟩ : Amount)])) else none) else (rec2 (p + 1, o))) ⟨_, rfl⟩ (fun _ => by
          by_cases q : (0 : Int) < gr.1
          · simp only [q, decide_true, if_true]
            rw [if_pos (by simp only [List.length_append, List.length_cons, List.length_nil]; omega)]
            obtain ⟨r, hr, _⟩ := hr (o ++ [(⟨x, gr.1⟩ : Amount)]) (by simp only [List.length_append, List.length_cons, List.length_nil]; omega)
            exact ⟨r, hr⟩
          · simp only [q, decide_false, Bool.false_eq_true, _root_.if_false]
            obtain ⟨r, hr, _⟩ := hr o (by omega)
            exact ⟨r, hr⟩)
        exact ⟨r, hr, trivial⟩
    · intro rec p _ x t h0 h1 hx hm hw hI hr
      obtain ⟨e, he, hl⟩ := A186_ok x
      simp only [F270.l4, h1, hx, he, decide_true, if_true, Option.bind_some, hw]
      obtain ⟨r, hr⟩ := stop_ok e (fun e => some ((.stop e : Res Unit), ([] : List Amount))) (fun _ => rec (p + 1)) ⟨_, rfl⟩ (fun h0 => by
        obtain ⟨r, hr, _⟩ := hr () (fun y hy => by
          rcases hI y hy with h | h
          · rcases List.mem_cons.1 h with rfl | h
            · exact .inr (hl h0)
            · exact .inl h
          · exact .inr h)
        exact ⟨r, hr⟩)
      exact ⟨r, hr, trivial⟩
  obtain ⟨r, hr, _⟩ := this
  exact ⟨r, hr⟩
theorem F73_ok (a b : List Amount) : ∃ r, F73 a b = some r := by
  obtain ⟨x, hx⟩ := A270_ok a b (fun y0 => F175 y0 a b) fun s => F175_ok s a b
  simp only [F73, F174, hx, Option.bind_some]
  split <;> exact ⟨_, rfl⟩
theorem A255_ok (l : List Pod) (hl : l.length ≤ 130) : ∃ r, A255 l [] (fun y0 => F154 y0) = some r := by
  unfold A255 F255
  have : ∃ r, iterL (F255.l3 l (fun y0 => F154 y0)) 4096 ((fun (o : List Amount) p => (p, o)) [] 0) = some r ∧ True := by
    refine iter_ok (β := List Amount) l 4096 (by omega) (by omega) (fun o p => (p, o)) _ (fun _ _ => True) _ ?_ ?_ [] trivial
    · intro rec o _
      simp [F255.l3]
    · intro rec p o x t h0 h1 hx hm hw _ hr
      obtain ⟨s, hs⟩ := F73_ok o x.Need
      simp only [F255.l3, h1, hx, F154, hs, decide_true, if_true, Option.bind_some, hw, F152, F133]
      by_cases q : s.2 = 0
      · simpa [q, thnX, thn] using hr s.1 trivial
      · simp [q, thnX, thn]
  obtain ⟨r, hr, _⟩ := this
  exact ⟨r, hr⟩
theorem F55_ok (s : State) (hp : s.Pods.length ≤ 130) (name : Str) : ∃ r, F55 s name = some r := by
  unfold F55
  split
  · exact ⟨_, rfl⟩
  · have ho : onF s name = some (s.Pods.filter (onNode name)) := by
      unfold onF filtF
      rw [if_pos (by simp only [List.length_nil]; omega)]
      rfl
    obtain ⟨r, hr⟩ := A255_ok (s.Pods.filter (onNode name)) (Nat.le_trans (List.length_filter_le _ _) hp)
    simp only [ho, Option.bind_some, F153, hr]
    split <;> exact ⟨_, rfl⟩
theorem F279_ok (s : State) (hp : s.Pods.length ≤ 130) (name what : Str) : ∃ r, F279 s name what = some r := by
  unfold F279
  split
  · exact ⟨_, rfl⟩
  · obtain ⟨u, hu⟩ := F55_ok s hp name
    obtain ⟨x, hx⟩ := F78_ok u.1 what
    obtain ⟨y, hy⟩ := F78_ok (nodeFind s.Nodes name).1.Cap what
    simp only [hu, hx, hy, Option.bind_some, F91]
    exact ⟨_, rfl⟩
theorem A200_ok (s : State) (hp : s.Pods.length ≤ 130) (name : Str) (hc : (nodeFind s.Nodes name).1.Cap.length ≤ 20) : ∃ r, A200 s name = some r ∧ r.length ≤ 20 := by
  unfold A200 F200
  refine iter_ok (β := List Nat) (nodeFind s.Nodes name).1.Cap 4096 (by omega) (by omega) (fun o p => (o, p)) _ (fun o t => o.length + t.length ≤ 20) _ ?_ ?_ [] (by simpa using hc)
  · intro rec o ho
    simp only [F200.l10, Int.lt_irrefl, decide_false, Bool.false_eq_true, _root_.if_false]
    exact ⟨_, rfl, by simpa using ho⟩
  · intro rec p o x t h0 h1 hx hm hw ho hr
    obtain ⟨u, hu⟩ := F279_ok s hp name x.Name
    simp only [List.length_cons] at ho
    simp only [F200.l10, h1, hx, hu, decide_true, if_true, Option.bind_some, hw]
    rw [if_pos (by simp only [List.length_append, List.length_cons, List.length_nil]; omega)]
    exact hr _ (by simp only [List.length_append, List.length_cons, List.length_nil]; omega)
end Go.Proofs.Eng
