/- What a law is handed, opened as worths. -/
import Derived.Test.YtdolhcmhdjmoeaaDoorProg
import Derived.Test.YtdolhcmhdjmoeaaDoorEddData
import Derived.Test.YtdolhcmhdjmoeaaDoorEngOpen
set_option linter.unusedVariables false
namespace Go.Proofs.Eng
open Go Go.Proofs Go.RowKit
variable {H : Type} {enc : TypeId × Value → H} {w : World} {base : Nat} {spare : Nat → Bool} {held : Bool}
theorem COp.weak {P : Program} {t : TypeId} {α : Type} {av : α → AV} {wf : α → Prop} (h : COp enc P w base spare held t (SOf av wf)) : COp enc P w base spare held t (SOf av fun _ => True) := fun fuel cs x hx => by
  obtain ⟨avs, ⟨y, _, e⟩, h2, h3⟩ := h fuel cs x hx
  exact ⟨avs, ⟨y, trivial, e⟩, h2, h3⟩
theorem okWide_float {P : Program} {r : Reach} {t : TypeId} {v : Value} {k : FloatKind} (ht : P.underlying t = some (.float k)) (h : Value.okWide P w r base t v) : ∃ n, v = .float k n := by
  simp only [Value.okWide, ht, Cell.okWide] at h
  cases v <;> simp_all [Cell.ok]
theorem parts_cons {S : List AV → Prop} {r : List (List AV → Prop)} {avs : List AV} (h : Parts (S :: r) avs) : ∃ a b, avs = a ++ b ∧ S a ∧ Parts r b := h
theorem parts_nil {avs : List AV} (h : Parts [] avs) : avs = [] := h
theorem copw5 : COp enc Tryd.prog w base spare held 5 (SOf (AV.ik .u8) fun n => (Lit.int .u8 n).wf = true) := cop_int Tryd.underlying5
theorem cop5 : COp enc Tryd.prog w base spare held 5 (SOf (AV.ik .u8) fun _ => True) := COp.weak (copw5)
end Go.Proofs.Eng
