/- Calls that write captured variables: looser worths; Try over them. -/
import Derived.Test.YtdolhcmhdjmoeaaGreatDoorEngU
set_option linter.unusedSimpArgs false
set_option linter.unusedVariables false
namespace Go.Proofs.Eng
open Go

def LwLL : List (List AV) → List (List AV) → Prop
  | [], [] => True
  | a :: x, b :: y => LwL a b ∧ LwLL x y
  | _, _ => False
theorem LwLL_at : ∀ {a b : List (List AV)}, LwLL a b → a.length = b.length ∧ ∀ j (h : j < a.length) (h' : j < b.length), LwL a[j] b[j]
  | [], [], _ => ⟨rfl, fun j h => by simp at h⟩
  | v :: a, v' :: b, h => by
    obtain ⟨g1, g2⟩ := LwLL_at h.2
    refine ⟨by simp [g1], fun j h1 h2 => ?_⟩
    cases j with
    | zero => exact h.1
    | succ j => exact g2 j (by simpa using h1) (by simpa using h2)
  | [], _ :: _, h => h.elim
  | _ :: _, [], h => h.elim
theorem LwLL_rfl : ∀ (a : List (List AV)), LwLL a a
  | [] => trivial
  | v :: a => ⟨LwL_rfl v, LwLL_rfl a⟩

theorem BlkD.le {D : Foot} {w : World} {b : Nat} {cs cs' : List AV} (h : BlkD D w b cs) (hl : LwL cs cs') : BlkD D w b cs' := by
  obtain ⟨arr, t, h1, h2, h3⟩ := h
  obtain ⟨g1, g2⟩ := LwL_at hl
  exact ⟨arr, t, h1, g1.symm.trans h2, fun j q q' => (g2 j (by omega) q).vd (h3 j (by omega) q')⟩

theorem DetX.of_le {P : Program} {f : FuncId} {args : List AV} {ext ext' : List (List AV)} {out : AOut} (h : ACalls P f args ext fun o e => leO o out ∧ LwLL e ext') : DetX P f args ext out ext' := by
  intro c cargs h1 h2 h3
  refine Calls.mono' (h c cargs h1 h2 h3) ?_
  rintro e w' ⟨o, e', D', ⟨h4, h4'⟩, h5, h6⟩
  obtain ⟨g1, g2⟩ := LwLL_at h4'
  exact ⟨out, ext', D', ⟨rfl, rfl⟩, ⟨h5.since, h5.dlt, g1.symm.trans h5.len, fun i q q' => ⟨(h5.blk i q (by omega)).1.le (g2 i (by omega) q'), (h5.blk i q (by omega)).2⟩⟩, h6.le h4⟩

theorem DetX.args {P : Program} {f : FuncId} {args args' : List AV} {ext ext1 ext' : List (List AV)} {out : AOut} (h : DetX P f args' ext1 out ext') (hl : LwL args args') (he : LwLL ext ext1) : DetX P f args ext out ext' := by
  intro c cargs h1 h2 h3
  obtain ⟨g1, g2⟩ := LwL_at hl
  obtain ⟨g3, g4⟩ := LwLL_at he
  exact h c cargs ⟨h1.nodup, h1.ebl, g3.symm.trans h1.len, fun i q q' => ⟨(h1.blk i q (by omega)).1.le (g4 i (by omega) q'), (h1.blk i q (by omega)).2⟩, h1.dlt⟩ (g1.symm.trans h2) fun j h4 h5 => (g2 j (by omega) h4).vr (h3 j (by omega) h5)

theorem Det.x {P : Program} {f : FuncId} {args : List AV} {out : AOut} (h : Det P f args out) : DetX P f args [] out [] := by
  intro c cargs h1 h2 h3
  refine Calls.mono' (h c cargs h1 h2 h3) ?_
  rintro e w' ⟨o, e', D', rfl, h5, h6⟩
  have hc : c.eb = [] := List.eq_nil_of_length_eq_zero (by have := h1.len; simpa using this.symm)
  have : e' = [] := List.eq_nil_of_length_eq_zero (by rw [h5.len, hc]; rfl)
  subst this
  exact ⟨_, _, D', ⟨rfl, rfl⟩, h5, h6⟩
theorem DetX.det {P : Program} {f : FuncId} {args : List AV} {out : AOut} (h : DetX P f args [] out []) : Det P f args out := by
  intro c cargs h1 h2 h3
  refine Calls.mono' (h c cargs h1 h2 h3) ?_
  rintro e w' ⟨o, e', D', ⟨rfl, rfl⟩, h5, h6⟩
  exact ⟨_, _, D', rfl, h5, h6⟩

/-- What Try tells of a function value that comes to r. -/
def tryCode {α : Type} : Res α → Int
  | .ret _ => 0
  | .stop e => e
/-- As thn, where what is left in captured variables is told, too. -/
def thnX {α β : Type} (x : Option (Res α)) (s : Int → Option β) (f : α → Option β) : Option β :=
  match x with
  | some (.ret y) => f y
  | some (.stop e) => s e
  | none => none
theorem thnX_some {α β : Type} {x : Option (Res α)} {s : Int → Option β} {f : α → Option β} {r : β} (h : thnX x s f = some r) : (∃ e, x = some (.stop e) ∧ s e = some r) ∨ (∃ y, x = some (.ret y) ∧ f y = some r) := by
  unfold thnX at h
  split at h
  · exact .inr ⟨_, rfl, h⟩
  · exact .inl ⟨_, rfl, h⟩
  · cases h
end Go.Proofs.Eng
