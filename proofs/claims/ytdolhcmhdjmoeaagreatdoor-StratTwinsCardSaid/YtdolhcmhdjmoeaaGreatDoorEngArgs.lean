/- What a law is handed, opened as worths. -/
import Derived.Test.YtdolhcmhdjmoeaaGreatDoorProg
import Derived.Test.YtdolhcmhdjmoeaaGreatDoorEngData
import Derived.Test.YtdolhcmhdjmoeaaGreatDoorEngOpen
set_option linter.unusedVariables false
namespace Go.Proofs.Eng
open Go Go.Proofs Go.RowKit
variable {H : Type} {enc : TypeId × Value → H} {w : World} {base : Nat} {spare : Nat → Bool} {held : Bool}
theorem COp.weak {P : Program} {t : TypeId} {α : Type} {av : α → AV} {wf : α → Prop} (h : COp enc P w base spare held t (SOf av wf)) : COp enc P w base spare held t (SOf av fun _ => True) := fun fuel cs x hx => by
  obtain ⟨avs, ⟨y, _, e⟩, h2, h3⟩ := h fuel cs x hx
  exact ⟨avs, ⟨y, trivial, e⟩, h2, h3⟩
theorem okWide_float {P : Program} {r : Reach} {t : TypeId} {v : Value} {k : FloatKind} (ht : P.underlying t = some (.float k)) (h : Value.okWide P w r base t v) : ∃ n, v = .float k n := by
  simp only [Value.okWide, ht, Cell.okWide] at h
  cases v <;> simp_all [Cell.ok]
theorem parts_cons {S : List AV → Prop} {r : List (List AV → Prop)} {avs : List AV} (h : Parts (S :: r) avs) : ∃ a b, avs = a ++ b ∧ S a ∧ Parts r b := h
theorem parts_nil {avs : List AV} (h : Parts [] avs) : avs = [] := h
theorem cop9 : COp enc Tryz.prog w base spare held 9 (SOf AV.str fun _ => True) := COp.weak (cop_str Tryz.underlying9)
theorem cop2 : COp enc Tryz.prog w base spare held 2 (SOf (AV.ik .i64) fun _ => True) := COp.weak (cop_int Tryz.underlying2)
theorem cop126 : COp enc Tryz.prog w base spare held 126 (SOf Amount.av fun _ => True) := by
  refine cop_struct (Ss := [SOf AV.str fun _ => True, SOf (AV.ik .i64) fun _ => True]) Tryz.underlying126 (by kernel_rfl) (And.intro cop9 (And.intro cop2 (True.intro))) fun avs h0 => ?_
  obtain ⟨_, b0, rfl, ⟨y0, _, rfl⟩, h1⟩ := parts_cons h0
  obtain ⟨_, b1, rfl, ⟨y1, _, rfl⟩, h2⟩ := parts_cons h1
  obtain rfl := parts_nil h2
  exact ⟨⟨y0, y1⟩, trivial, rfl⟩
theorem cop37 : COp enc Tryz.prog w base spare held 37 (SOf (AV.lst 2 Amount.av) fun _ => True) := COp.weak (cop_slice Tryz.underlying37 (by kernel_rfl) (by decide) (fun _ => ⟨rfl, rfl⟩) cop126)
theorem cop154 : COp enc Tryz.prog w base spare held 154 (SOf Pair.av fun _ => True) := by
  refine cop_struct (Ss := [SOf AV.str fun _ => True, SOf AV.str fun _ => True]) Tryz.underlying154 (by kernel_rfl) (And.intro cop9 (And.intro cop9 (True.intro))) fun avs h0 => ?_
  obtain ⟨_, b0, rfl, ⟨y0, _, rfl⟩, h1⟩ := parts_cons h0
  obtain ⟨_, b1, rfl, ⟨y1, _, rfl⟩, h2⟩ := parts_cons h1
  obtain rfl := parts_nil h2
  exact ⟨⟨y0, y1⟩, trivial, rfl⟩
theorem cop39 : COp enc Tryz.prog w base spare held 39 (SOf (AV.lst 2 Pair.av) fun _ => True) := COp.weak (cop_slice Tryz.underlying39 (by kernel_rfl) (by decide) (fun _ => ⟨rfl, rfl⟩) cop154)
theorem cop4 : COp enc Tryz.prog w base spare held 4 (SOf AV.bool fun _ => True) := cop_bool Tryz.underlying4
theorem cop164 : COp enc Tryz.prog w base spare held 164 (SOf Taint.av fun _ => True) := by
  refine cop_struct (Ss := [SOf AV.str fun _ => True, SOf AV.str fun _ => True, SOf AV.bool fun _ => True]) Tryz.underlying164 (by kernel_rfl) (And.intro cop9 (And.intro cop9 (And.intro cop4 (True.intro)))) fun avs h0 => ?_
  obtain ⟨_, b0, rfl, ⟨y0, _, rfl⟩, h1⟩ := parts_cons h0
  obtain ⟨_, b1, rfl, ⟨y1, _, rfl⟩, h2⟩ := parts_cons h1
  obtain ⟨_, b2, rfl, ⟨y2, _, rfl⟩, h3⟩ := parts_cons h2
  obtain rfl := parts_nil h3
  exact ⟨⟨y0, y1, y2⟩, trivial, rfl⟩
theorem cop69 : COp enc Tryz.prog w base spare held 69 (SOf (AV.lst 3 Taint.av) fun _ => True) := COp.weak (cop_slice Tryz.underlying69 (by kernel_rfl) (by decide) (fun _ => ⟨rfl, rfl⟩) cop164)
theorem cop71 : COp enc Tryz.prog w base spare held 71 (SOf Node.av fun _ => True) := by
  refine cop_struct (Ss := [SOf AV.str fun _ => True, SOf (AV.lst 2 Amount.av) fun _ => True, SOf (AV.lst 2 Pair.av) fun _ => True, SOf (AV.lst 3 Taint.av) fun _ => True, SOf AV.bool fun _ => True]) Tryz.underlying71 (by kernel_rfl) (And.intro cop9 (And.intro cop37 (And.intro cop39 (And.intro cop69 (And.intro cop4 (True.intro)))))) fun avs h0 => ?_
  obtain ⟨_, b0, rfl, ⟨y0, _, rfl⟩, h1⟩ := parts_cons h0
  obtain ⟨_, b1, rfl, ⟨y1, _, rfl⟩, h2⟩ := parts_cons h1
  obtain ⟨_, b2, rfl, ⟨y2, _, rfl⟩, h3⟩ := parts_cons h2
  obtain ⟨_, b3, rfl, ⟨y3, _, rfl⟩, h4⟩ := parts_cons h3
  obtain ⟨_, b4, rfl, ⟨y4, _, rfl⟩, h5⟩ := parts_cons h4
  obtain rfl := parts_nil h5
  exact ⟨⟨y0, y1, y2, y3, y4⟩, trivial, rfl⟩
theorem cop22 : COp enc Tryz.prog w base spare held 22 (SOf (AV.lst 5 Node.av) fun _ => True) := COp.weak (cop_slice Tryz.underlying22 (by kernel_rfl) (by decide) (fun _ => ⟨rfl, rfl⟩) cop71)
theorem cop3 : COp enc Tryz.prog w base spare held 3 (SOf (AV.ik .i64) fun _ => True) := COp.weak (cop_int Tryz.underlying3)
theorem cop149 : COp enc Tryz.prog w base spare held 149 (SOf Term.av fun _ => True) := by
  refine cop_struct (Ss := [SOf (AV.ik .i64) fun _ => True, SOf AV.str fun _ => True, SOf AV.str fun _ => True]) Tryz.underlying149 (by kernel_rfl) (And.intro cop3 (And.intro cop9 (And.intro cop9 (True.intro)))) fun avs h0 => ?_
  obtain ⟨_, b0, rfl, ⟨y0, _, rfl⟩, h1⟩ := parts_cons h0
  obtain ⟨_, b1, rfl, ⟨y1, _, rfl⟩, h2⟩ := parts_cons h1
  obtain ⟨_, b2, rfl, ⟨y2, _, rfl⟩, h3⟩ := parts_cons h2
  obtain rfl := parts_nil h3
  exact ⟨⟨y0, y1, y2⟩, trivial, rfl⟩
theorem cop41 : COp enc Tryz.prog w base spare held 41 (SOf (AV.lst 3 Term.av) fun _ => True) := COp.weak (cop_slice Tryz.underlying41 (by kernel_rfl) (by decide) (fun _ => ⟨rfl, rfl⟩) cop149)
theorem cop262 : COp enc Tryz.prog w base spare held 262 (SOf Tol.av fun _ => True) := by
  refine cop_struct (Ss := [SOf AV.str fun _ => True, SOf AV.str fun _ => True, SOf AV.bool fun _ => True]) Tryz.underlying262 (by kernel_rfl) (And.intro cop9 (And.intro cop9 (And.intro cop4 (True.intro)))) fun avs h0 => ?_
  obtain ⟨_, b0, rfl, ⟨y0, _, rfl⟩, h1⟩ := parts_cons h0
  obtain ⟨_, b1, rfl, ⟨y1, _, rfl⟩, h2⟩ := parts_cons h1
  obtain ⟨_, b2, rfl, ⟨y2, _, rfl⟩, h3⟩ := parts_cons h2
  obtain rfl := parts_nil h3
  exact ⟨⟨y0, y1, y2⟩, trivial, rfl⟩
theorem cop42 : COp enc Tryz.prog w base spare held 42 (SOf (AV.lst 3 Tol.av) fun _ => True) := COp.weak (cop_slice Tryz.underlying42 (by kernel_rfl) (by decide) (fun _ => ⟨rfl, rfl⟩) cop262)
theorem cop44 : COp enc Tryz.prog w base spare held 44 (SOf Pod.av fun _ => True) := by
  refine cop_struct (Ss := [SOf AV.str fun _ => True, SOf AV.str fun _ => True, SOf (AV.ik .i64) fun _ => True, SOf (AV.lst 2 Amount.av) fun _ => True, SOf (AV.lst 2 Pair.av) fun _ => True, SOf (AV.lst 3 Term.av) fun _ => True, SOf (AV.lst 3 Tol.av) fun _ => True, SOf AV.str fun _ => True, SOf (AV.ik .i64) fun _ => True, SOf AV.str fun _ => True, SOf AV.bool fun _ => True]) Tryz.underlying44 (by kernel_rfl) (And.intro cop9 (And.intro cop9 (And.intro cop3 (And.intro cop37 (And.intro cop39 (And.intro cop41 (And.intro cop42 (And.intro cop9 (And.intro cop3 (And.intro cop9 (And.intro cop4 (True.intro)))))))))))) fun avs h0 => ?_
  obtain ⟨_, b0, rfl, ⟨y0, _, rfl⟩, h1⟩ := parts_cons h0
  obtain ⟨_, b1, rfl, ⟨y1, _, rfl⟩, h2⟩ := parts_cons h1
  obtain ⟨_, b2, rfl, ⟨y2, _, rfl⟩, h3⟩ := parts_cons h2
  obtain ⟨_, b3, rfl, ⟨y3, _, rfl⟩, h4⟩ := parts_cons h3
  obtain ⟨_, b4, rfl, ⟨y4, _, rfl⟩, h5⟩ := parts_cons h4
  obtain ⟨_, b5, rfl, ⟨y5, _, rfl⟩, h6⟩ := parts_cons h5
  obtain ⟨_, b6, rfl, ⟨y6, _, rfl⟩, h7⟩ := parts_cons h6
  obtain ⟨_, b7, rfl, ⟨y7, _, rfl⟩, h8⟩ := parts_cons h7
  obtain ⟨_, b8, rfl, ⟨y8, _, rfl⟩, h9⟩ := parts_cons h8
  obtain ⟨_, b9, rfl, ⟨y9, _, rfl⟩, h10⟩ := parts_cons h9
  obtain ⟨_, b10, rfl, ⟨y10, _, rfl⟩, h11⟩ := parts_cons h10
  obtain rfl := parts_nil h11
  exact ⟨⟨y0, y1, y2, y3, y4, y5, y6, y7, y8, y9, y10⟩, trivial, rfl⟩
theorem cop23 : COp enc Tryz.prog w base spare held 23 (SOf (AV.lst 11 Pod.av) fun _ => True) := COp.weak (cop_slice Tryz.underlying23 (by kernel_rfl) (by decide) (fun _ => ⟨rfl, rfl⟩) cop44)
theorem cop151 : COp enc Tryz.prog w base spare held 151 (SOf Budget.av fun _ => True) := by
  refine cop_struct (Ss := [SOf AV.str fun _ => True, SOf (AV.lst 3 Term.av) fun _ => True, SOf (AV.ik .i64) fun _ => True]) Tryz.underlying151 (by kernel_rfl) (And.intro cop9 (And.intro cop41 (And.intro cop3 (True.intro)))) fun avs h0 => ?_
  obtain ⟨_, b0, rfl, ⟨y0, _, rfl⟩, h1⟩ := parts_cons h0
  obtain ⟨_, b1, rfl, ⟨y1, _, rfl⟩, h2⟩ := parts_cons h1
  obtain ⟨_, b2, rfl, ⟨y2, _, rfl⟩, h3⟩ := parts_cons h2
  obtain rfl := parts_nil h3
  exact ⟨⟨y0, y1, y2⟩, trivial, rfl⟩
theorem cop24 : COp enc Tryz.prog w base spare held 24 (SOf (AV.lst 3 Budget.av) fun _ => True) := COp.weak (cop_slice Tryz.underlying24 (by kernel_rfl) (by decide) (fun _ => ⟨rfl, rfl⟩) cop151)
theorem cop26 : COp enc Tryz.prog w base spare held 26 (SOf State.av fun _ => True) := by
  refine cop_struct (Ss := [SOf (AV.lst 5 Node.av) fun _ => True, SOf (AV.lst 11 Pod.av) fun _ => True, SOf (AV.lst 3 Budget.av) fun _ => True]) Tryz.underlying26 (by kernel_rfl) (And.intro cop22 (And.intro cop23 (And.intro cop24 (True.intro)))) fun avs h0 => ?_
  obtain ⟨_, b0, rfl, ⟨y0, _, rfl⟩, h1⟩ := parts_cons h0
  obtain ⟨_, b1, rfl, ⟨y1, _, rfl⟩, h2⟩ := parts_cons h1
  obtain ⟨_, b2, rfl, ⟨y2, _, rfl⟩, h3⟩ := parts_cons h2
  obtain rfl := parts_nil h3
  exact ⟨⟨y0, y1, y2⟩, trivial, rfl⟩
theorem cop27 : COp enc Tryz.prog w base spare held 27 (SOf AV.fl fun _ => True) := COp.weak (cop_fl Tryz.underlying27)
end Go.Proofs.Eng
