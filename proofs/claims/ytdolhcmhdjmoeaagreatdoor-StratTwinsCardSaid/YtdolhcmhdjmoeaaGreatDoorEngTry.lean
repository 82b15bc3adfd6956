/- qty.Try: what a function value stops with is told. -/
import Derived.Test.YtdolhcmhdjmoeaaGreatDoorProg
import Derived.Test.YtdolhcmhdjmoeaaGreatDoorEngV
import Derived.Defers
import Derived.Recover
set_option linter.unusedSimpArgs false
set_option linter.unusedVariables false
namespace Go.Proofs.Eng
open Go Go.Proofs Go.RowKit

theorem catch_idle (p : Addr) (w : World) :
    CallsD Tryz.prog 211 #[.pointer (some p)] .returning w fun e u' w' => e = .returned (.tuple #[]) ∧ u' = .returning ∧ w' = w := by
  refine callsD_of_wpS Tryz.func211 rfl fun c₀ cs hu => ?_
  apply wpS_seq
  apply wpS_region
  simp [wpOpsS, go_sem, recoverD, hu, Tryz.ntmps211, Exit.thenS]
  refine wpS_of_wp ?_
  go_wp2
  cases c₀
  simp_all [bodyPostS, results, Tryz.results211]

set_option maxHeartbeats 4000000 in
set_option maxRecDepth 20000 in
theorem catch_stop (p : Addr) (x y : Int) (w : World) (hc : (w.alloc (.cells #[.int .i64 y] 279)).cell? p = some (.int .i64 x)) (hz : (w.alloc (.cells #[.int .i64 y] 279)).frozen? p = false) :
    CallsD Tryz.prog 211 #[.pointer (some p)] (.panicking [{ v := .iface 279 (.agg #[.int .i64 y]), recovered := false }]) w fun e u' w' =>
      e = .returned (.tuple #[]) ∧ u' = .panicking [{ v := .iface 279 (.agg #[.int .i64 y]), recovered := true }] ∧ w' = (w.alloc (.cells #[.int .i64 y] 279)).setCell p (.int .i64 y) := by
  refine callsD_of_wpS Tryz.func211 rfl fun c₀ cs hu => ?_
  apply wpS_seq
  apply wpS_region
  simp [wpOpsS, go_sem, recoverD, hu, Tryz.ntmps211, Exit.thenS]
  have hta : ∀ (v : Value) (w : World), (Instr.typeAssert (.iface 279 v) 20 279 true).run Tryz.prog w = .ok (.tuple #[v, .bool true]) w := fun _ _ => by kernel_rfl
  refine wpS_of_wp ?_
  go_wp2
  cases c₀
  simp_all [bodyPostS, results, Tryz.results211]

set_option maxHeartbeats 4000000 in
set_option maxRecDepth 20000 in
theorem try_calls (f : FuncId) (captured : Array Value) (w : World) (R R' : Ending → World → Prop) (h : CallsTo Tryz.prog f captured (w.alloc (.cells #[.int .i64 0] 60)) R)
    (hret : ∀ v w', R (.returned v) w' → w'.cell? ⟨w.heap.size, 0, none⟩ = some (.int .i64 0) ∧ w'.frozen? ⟨w.heap.size, 0, none⟩ = false ∧ (w'.setCell ⟨w.heap.size, 0, none⟩ (.int .i64 0)).cell? ⟨w.heap.size, 0, none⟩ = some (.int .i64 0) ∧ R' (.returned (.int .i64 0)) (w'.setCell ⟨w.heap.size, 0, none⟩ (.int .i64 0)))
    (hpan : ∀ chain w', R (.panicked chain) w' → ∃ y, chain = [{ v := .iface 279 (.agg #[.int .i64 y]), recovered := false }] ∧ (w'.alloc (.cells #[.int .i64 y] 279)).cell? ⟨w.heap.size, 0, none⟩ = some (.int .i64 0) ∧ (w'.alloc (.cells #[.int .i64 y] 279)).frozen? ⟨w.heap.size, 0, none⟩ = false ∧
      ((w'.alloc (.cells #[.int .i64 y] 279)).setCell ⟨w.heap.size, 0, none⟩ (.int .i64 y)).cell? ⟨w.heap.size, 0, none⟩ = some (.int .i64 y) ∧ R' (.returned (.int .i64 y)) ((w'.alloc (.cells #[.int .i64 y] 279)).setCell ⟨w.heap.size, 0, none⟩ (.int .i64 y)))
    (hout : ∀ w', ¬ R .outgrown w') : Calls Tryz.prog 113 #[.func (.func f) #[] captured] w R' := by
  have hmf : ∀ (fn : Fn) (first cap : Array Value) (w : World), (Instr.makeFunc fn first cap).run Tryz.prog w = .ok (.func fn first cap) w := fun _ _ _ _ => rfl
  go_enter_defers Tryz.func113, Tryz.ntmps113
  go_wp2
  unfold CallsTo at h
  split at h
  · rename_i f' args' w' hr
    rw [hr, Oper.upon_enter]
    refine h.mono ?_
    intro e w'' hR
    cases e with
    | returned v =>
      obtain ⟨h1, h2, h3, h4⟩ := hret v w'' hR
      go_wp2
      refine leaves_cons (f := 211) (args := #[.pointer (some ⟨w.heap.size, 0, none⟩)]) (by simp) (by simp [go_sem]) ?_
      refine (catch_idle ⟨w.heap.size, 0, none⟩ _).mono ?_
      rintro e u' w3 ⟨rfl, rfl, rfl⟩
      simp [Leaves, Go.settle, results, Tryz.results113, go_sem, h3]
      exact h4
    | panicked chain =>
      obtain ⟨y, rfl, h1, h2, h3, h4⟩ := hpan chain w'' hR
      simp only [Exit.then, bodyPostD]
      refine leaves_cons (f := 211) (args := #[.pointer (some ⟨w.heap.size, 0, none⟩)]) (by simp) (by simp [go_sem]) ?_
      refine (catch_stop ⟨w.heap.size, 0, none⟩ 0 y _ h1 h2).mono ?_
      rintro e u' w3 ⟨rfl, rfl, rfl⟩
      simp [Leaves, Go.settle, results, Tryz.results113, go_sem, h3]
      exact h4
    | outgrown => exact absurd hR (hout _)
  · rename_i v w' hr
    rw [hr]
    obtain ⟨h1, h2, h3, h4⟩ := hret v w' h
    simp only [Oper.upon]
    go_wp2
    refine leaves_cons (f := 211) (args := #[.pointer (some ⟨w.heap.size, 0, none⟩)]) (by simp) (by simp [go_sem]) ?_
    refine (catch_idle ⟨w.heap.size, 0, none⟩ _).mono ?_
    rintro e u' w3 ⟨rfl, rfl, rfl⟩
    simp [Leaves, Go.settle, results, Tryz.results113, go_sem, h3]
    exact h4
  · exact h.elim

/-- A variable of the callee's own, written behind a call that ended so. -/
theorem left_after {c : Cx} {o : Obj} {D' : Foot} {w' w3 : World} {ext' : List (List AV)} (hdl : ∀ b o, c.D0 b o → b < c.w0.heap.size) (heb : ∀ b, b ∈ c.eb → b < c.w0.heap.size) (hl : Left ⟨c.w0.alloc o, c.D0, c.eb⟩ D' w' ext')
    (h1 : w'.heap.size ≤ w3.heap.size) (h2 : ∀ k, k ≠ c.w0.heap.size → k < w'.heap.size → w3.heap[k]? = w'.heap[k]?) (h3 : w3.os = w'.os) (h4 : w3.tape = w'.tape) (h5 : w3.output = w'.output) : Left c D' w3 ext' := by
  have hs := hl.since
  have hsz : c.w0.heap.size + 1 ≤ w'.heap.size := by have := hs.size; simpa using this
  have hold : ∀ k, k < c.w0.heap.size → w3.heap[k]? = w'.heap[k]? := fun k hk => h2 k (by omega) (by omega)
  have hDne : ∀ b o, D' b o → b ≠ c.w0.heap.size := by
    intro b o hb he
    rcases hs.new b o hb with h | h
    · have := hdl b o h; omega
    · simp at h; omega
  have hd : DExt D' w' D' w3 := fun b o hb => ⟨hb, cell_heap (h2 b (hDne b o hb) (hl.dlt b o hb)) o⟩
  refine ⟨⟨?_, by omega, ?_, h3.trans hs.os, h4.trans hs.tape, h5.trans hs.output, ?_⟩, fun b o hb => Nat.lt_of_lt_of_le (hl.dlt b o hb) h1, hl.len, ?_⟩
  · intro b o hb
    have hlt := hdl b o hb
    obtain ⟨g1, g2⟩ := hs.dx b o hb
    exact ⟨g1, (cell_heap (hold b hlt) o).trans (g2.trans (cell_heap (heap_alloc_old _ _ hlt) o))⟩
  · intro b hb hne
    rw [hold b hb, hs.frame b (by simp; omega) hne]
    exact heap_alloc_old _ _ hb
  · intro b o hb
    rcases hs.new b o hb with h | h
    · exact .inl h
    · exact .inr (by simp at h; omega)
  · intro i h h'
    obtain ⟨⟨arr, t, g1, g2, g3⟩, g4⟩ := hl.blk i h h'
    exact ⟨⟨arr, t, (hold _ (heb _ (List.getElem_mem h))).trans g1, g2, fun j q q' => (g3 j q q').mono hd⟩, g4⟩

theorem modify_other (h : Array Obj) (b k : Nat) (f : Obj → Obj) (hk : k ≠ b) : (h.modify b f)[k]? = h[k]? := by
  rw [Array.getElem?_modify]
  simp [show ¬ b = k from fun e => hk e.symm]

theorem cell_set {w : World} {b : Nat} {x v : Value} {t : TypeId} {z : Nat × Nat} (h : w.heap[b]? = some (.cells #[x] t z)) : (w.setCell ⟨b, 0, none⟩ v).cell? ⟨b, 0, none⟩ = some v := by
  unfold World.setCell World.cell?
  simp only [Array.getElem?_modify, h]
  simp

set_option maxRecDepth 20000 in
/-- What Try tells: 0, or what the function value stopped with. -/
theorem try_x {f : FuncId} {caps : List AV} {ext ext' : List (List AV)} {out : AOut} {code : Int} (h : DetX Tryz.prog f caps ext out ext') (ho : ((∃ v, out = .ret v) ∧ code = 0) ∨ out = .panic (.iface 279 (.agg [AV.int code]))) :
    DetX Tryz.prog 113 [.func f caps] ext (.ret (AV.int code)) ext' := by
  intro c cargs hent hlen hargs
  have hx := hargs 0 (by simp) (by simp at hlen; omega)
  obtain ⟨arr, he, hs, hv⟩ := hx.at_func
  have hc : cargs = #[.func (.func f) #[] arr] := by
    apply Array.ext
    · simpa using hlen.symm
    · intro i h1 h2
      have : i = 0 := by simp at h2; omega
      subst this
      simpa using he
  subst hc
  have henter : (callFunc 113 #[.func (.func f) #[] arr]).run Tryz.prog c.w0 = .ok (.enter 113 #[.func (.func f) #[] arr]) c.w0 := by
    have hb : Tryz.f113.body = some _ := rfl
    have hne : ¬ Tryz.f113.name = "runtime.NumGoroutine" := by
      have : (Tryz.f113.name == "runtime.NumGoroutine") = false := by kernel_rfl
      simpa using this
    simp [callFunc, Tryz.func113, hb, hne]
  unfold CallsTo
  rw [henter]
  have hw1 : ∀ b, b < c.w0.heap.size → (c.w0.alloc (.cells #[.int .i64 0] 60)).heap[b]? = c.w0.heap[b]? := fun b hb => heap_alloc_old _ _ hb
  have hd : DExt c.D0 c.w0 c.D0 (c.w0.alloc (.cells #[.int .i64 0] 60)) := fun b o hb => ⟨hb, cell_heap (hw1 b (hent.dlt b o hb)) o⟩
  have hent' : Entry ⟨c.w0.alloc (.cells #[.int .i64 0] 60), c.D0, c.eb⟩ ext := by
    refine ⟨hent.nodup, fun b hb => by have := hent.ebl b hb; simp; omega, hent.len, fun i h1 h2 => ?_, fun b o hb => by have := hent.dlt b o hb; simp; omega⟩
    obtain ⟨⟨ar, t, g1, g2, g3⟩, g4⟩ := hent.blk i h1 h2
    exact ⟨⟨ar, t, (hw1 _ (hent.ebl _ (List.getElem_mem h1))).trans g1, g2, fun j q q' => (g3 j q q').mono hd⟩, g4⟩
  have hcall := h ⟨c.w0.alloc (.cells #[.int .i64 0] 60), c.D0, c.eb⟩ arr hent' hs (fun j h1 h2 => (hv j h1 h2).mono (.of_D hd))
  have hblk : ∀ {D' : Foot} {w' : World} {x : List (List AV)}, Left ⟨c.w0.alloc (.cells #[.int .i64 0] 60), c.D0, c.eb⟩ D' w' x → w'.heap[c.w0.heap.size]? = some (.cells #[.int .i64 0] 60 (0, 0)) := by
    intro D' w' x hl
    rw [hl.since.frame c.w0.heap.size (by simp) (fun hb => by have := hent.ebl _ hb; omega)]
    exact heap_alloc_new _ _
  refine try_calls f arr c.w0 _ _ hcall ?_ ?_ ?_
  · rintro v w' ⟨o, x, D', ⟨rfl, rfl⟩, hl, hout⟩
    have hb := hblk hl
    have hcode : code = 0 := by
      rcases ho with ⟨_, h⟩ | h
      · exact h
      · rw [h] at hout; exact hout.elim
    subst hcode
    refine ⟨by simp [World.cell?, hb], by simp [World.frozen?, hb], cell_set hb, ?_⟩
    refine ⟨_, _, D', ⟨rfl, rfl⟩, left_after hent.dlt hent.ebl hl (by simp [World.setCell]) (fun k hk _ => by simp only [World.setCell]; exact modify_other _ _ _ _ hk) rfl rfl rfl, ?_⟩
    exact .val _ rfl
  · rintro chain w' ⟨o, x, D', ⟨rfl, rfl⟩, hl, hout⟩
    have hb := hblk hl
    have hlt : c.w0.heap.size < w'.heap.size := (Array.getElem?_eq_some_iff.1 hb).1
    rcases ho with ⟨⟨v, hv'⟩, _⟩ | h
    · rw [hv'] at hout; exact hout.elim
    · rw [h] at hout
      obtain ⟨y, rfl, hy⟩ := hout
      have hy' : y = .iface 279 (.agg #[.int .i64 code]) := by
        cases hy with
        | iface _ _ x hx =>
          cases hx with
          | agg _ ar hs' hh =>
            have h0 := hh 0 (by simp) (by simp at hs'; omega)
            have : ar = #[.int .i64 code] := by
              apply Array.ext
              · simpa using hs'.symm
              · intro i h1 h2
                have : i = 0 := by simp at h2; omega
                subst this
                have := (VR.cl (g := ⟨D', fun _ => none, [], fun _ => none⟩) _ _ h0).plain_of.1
                simpa using this
            rw [this]
      subst hy'
      have hb2 : (w'.alloc (.cells #[.int .i64 code] 279)).heap[c.w0.heap.size]? = some (.cells #[.int .i64 0] 60 (0, 0)) := (heap_alloc_old _ _ hlt).trans hb
      refine ⟨code, rfl, by simp [World.cell?, hb2], by simp [World.frozen?, hb2], cell_set hb2, ?_⟩
      refine ⟨_, _, D', ⟨rfl, rfl⟩, left_after hent.dlt hent.ebl hl (by simp [World.setCell]) (fun k hk hk2 => ?_) rfl rfl rfl, .val _ rfl⟩
      simp only [World.setCell]
      rw [modify_other _ _ _ _ hk]
      exact heap_alloc_old _ _ hk2
  · rintro w' ⟨o, x, D', _, _, hout⟩
    cases o <;> exact hout.elim

set_option maxRecDepth 20000 in
theorem try_any {α : Type} {f : FuncId} {caps : List AV} {ext ext' : List (List AV)} {enc : α → AV} {r : Res α} (h : DetX Tryz.prog f caps ext (Res.out 279 enc r) ext') : DetX Tryz.prog 113 [.func f caps] ext (.ret (AV.int (tryCode r))) ext' := by
  cases r with
  | ret v => exact try_x h (Or.inl ⟨⟨_, rfl⟩, rfl⟩)
  | stop e => exact try_x h (Or.inr rfl)
set_option maxRecDepth 20000 in
theorem try_det {α : Type} {f : FuncId} {caps : List AV} {enc : α → AV} {r : Res α} (h : Det Tryz.prog f caps (Res.out 279 enc r)) : Det Tryz.prog 113 [.func f caps] (.ret (AV.int (tryCode r))) := (try_any h.x).det
end Go.Proofs.Eng
