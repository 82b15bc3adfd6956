/- From the library's contracts to worths. -/
import Derived.Test.YtdolhcmhdjmoeaaGreatDoorEngY
import Derived.Test.YtdolhcmhdjmoeaaGreatDoorEngZ
import Derived.Test.YtdolhcmhdjmoeaaGreatDoorEngTry
import Derived.Shelf.Strings.SlTrimAscii
import Derived.Below
set_option linter.unusedSimpArgs false
set_option linter.unusedVariables false
namespace Go.Proofs.Eng
open Go Go.Proofs Go.RowKit

theorem Left.of_below {c : Cx} {w' : World} (h : Entry c []) (hb : Below c.w0.heap.size c.w0 w') : Left c c.D0 w' [] := by
  refine ⟨⟨fun b o hd => ⟨hd, cell_heap (hb.block b (h.dlt b o hd)) o⟩, hb.size, fun b hlt _ => hb.block b hlt, hb.os, hb.tape, hb.output, fun b o hd => .inl hd⟩, fun b o hd => Nat.lt_of_lt_of_le (h.dlt b o hd) hb.size, h.len, fun i q q' => by simp at q'⟩

theorem Det.of_below {P : Program} {f : FuncId} {args : List AV} {v : AV} (hent : ∀ (args : Array Value) (w : World), (callFunc f args).run P w = .ok (.enter f args) w)
    (h : ∀ (g : Gh) (w : World) (cargs : Array Value), args.length = cargs.size → (∀ j (h : j < args.length) (h' : j < cargs.size), VR g w args[j] cargs[j]) → Calls P f cargs w fun e w' => ∃ x, e = .returned x ∧ (∀ D, VD D w' v x) ∧ Below w.heap.size w w') : Det P f args (.ret v) := by
  intro c cargs h1 h2 h3
  unfold CallsTo
  rw [hent]
  refine (h c.g0 c.w0 cargs h2 h3).mono ?_
  rintro e w' ⟨x, rfl, hv, hb⟩
  exact ⟨_, [], c.D0, rfl, Left.of_below h1 hb, hv _⟩

/-- A function that the model answers at once. -/
theorem Det.of_value {P : Program} {f : FuncId} {args : List AV} {v : AV}
    (h : ∀ (g : Gh) (w : World) (cargs : Array Value), args.length = cargs.size → (∀ j (h : j < args.length) (h' : j < cargs.size), VR g w args[j] cargs[j]) → ∃ x, (callFunc f cargs).run P w = .ok (.value x) w ∧ ∀ D, VD D w v x) : Det P f args (.ret v) := by
  intro c cargs h1 h2 h3
  unfold CallsTo
  obtain ⟨x, hr, hv⟩ := h c.g0 c.w0 cargs h2 h3
  rw [hr]
  exact ⟨_, [], c.D0, rfl, Left.of_below h1 (Below.refl _ _), hv _⟩

theorem one_arg {g : Gh} {w : World} {v : AV} {cargs : Array Value} (h2 : [v].length = cargs.size) (h3 : ∀ j (h : j < [v].length) (h' : j < cargs.size), VR g w [v][j] cargs[j]) : ∃ x, cargs = #[x] ∧ VR g w v x := by
  have hs : cargs.size = 1 := by simpa using h2.symm
  refine ⟨cargs[0], ?_, h3 0 (by simp) (by omega)⟩
  apply Array.ext
  · simpa using hs
  · intro i h1 h2
    have : i = 0 := by omega
    subst this; rfl
theorem two_args {g : Gh} {w : World} {v u : AV} {cargs : Array Value} (h2 : [v, u].length = cargs.size) (h3 : ∀ j (h : j < [v, u].length) (h' : j < cargs.size), VR g w [v, u][j] cargs[j]) : ∃ x y, cargs = #[x, y] ∧ VR g w v x ∧ VR g w u y := by
  have hs : cargs.size = 2 := by simpa using h2.symm
  refine ⟨cargs[0], cargs[1], ?_, h3 0 (by simp) (by omega), h3 1 (by simp) (by omega)⟩
  apply Array.ext
  · simpa using hs
  · intro i h1 h2
    have : i = 0 ∨ i = 1 := by omega
    rcases this with rfl | rfl <;> rfl

/-- strings.Trim at a cutset of plain letters. -/
def trimO (s cs : Str) : Option Str := if s.length ≤ 9223372036854775807 ∧ cs.length < 4294967281 ∧ cs.all (fun b => decide (b.toNat < 128)) = true then some (Lib.trimS s cs) else none
def bitsO (b : Nat) : Option Int := if nanBits b = true then none else some (b : Int)
def frombits (n : Int) : Nat := n.toNat
end Go.Proofs.Eng
