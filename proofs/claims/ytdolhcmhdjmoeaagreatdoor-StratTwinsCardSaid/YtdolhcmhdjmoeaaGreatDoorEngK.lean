/- A region whose order Go leaves open: what one order comes to all come to. -/
import Derived.Test.YtdolhcmhdjmoeaaGreatDoorEngJ
import Derived.Orders
set_option linter.unusedSimpArgs false
set_option linter.unusedVariables false
namespace Go.Proofs.Eng
open Go

theorem bnd_mono {st : ASt} {o : Option Operand} {d : Nat} {K K' : Nat → Prop} (hk : ∀ n, K n → K' n) (hb : bnd st o d K) : bnd st o d K' := by
  unfold bnd at *
  split at hb
  · exact hk _ hb
  · split at hb
    · exact ⟨hb.1, hk _ hb.2⟩
    · exact hb.elim
theorem bnd_loc {st st' : ASt} {o : Option Operand} {d : Nat} {K : Nat → Prop} (ho : ∀ x, o = some x → st'.ev x = st.ev x) (hb : bnd st o d K) : bnd st' o d K := by
  cases o with
  | none => exact hb
  | some x => simp only [bnd] at *; rw [ho x rfl]; exact hb

/-- What a value operation comes to hangs on what it looks at. -/
theorem aval_loc {P : Program} {st st' : ASt} {op : Op} {K : AV → Prop} (he : ∀ x ∈ op.operands, st'.ev x = st.ev x) (hm : ∀ t p, op = .load t p → st'.mem (st.ev p) = st.mem (st.ev p)) (h : aval P st op K) : aval P st' op K := by
  cases op with
  | move x => simp only [aval] at *; rw [he x (by simp [Op.operands])]; exact h
  | assign x => simp only [aval] at *; rw [he x (by simp [Op.operands])]; exact h
  | pick c a b =>
    simp only [aval] at *
    rw [he c (by simp [Op.operands]), he a (by simp [Op.operands]), he b (by simp [Op.operands])]; exact h
  | nilCheck x => simp only [aval] at *; rw [he x (by simp [Op.operands])]; exact h
  | load t p =>
    simp only [aval] at *
    rw [he p (by simp [Op.operands]), hm t p rfl]; exact h
  | fieldAddr s x f => simp only [aval] at *; rw [he x (by simp [Op.operands])]; exact h
  | indexAddr t x ix => simp only [aval] at *; rw [he x (by simp [Op.operands]), he ix (by simp [Op.operands])]; exact h
  | index t x ix => simp only [aval] at *; rw [he x (by simp [Op.operands]), he ix (by simp [Op.operands])]; exact h
  | build t parts =>
    simp only [aval] at *
    have : (parts.toList.map fun p => (p.1, st'.ev p.2)) = parts.toList.map fun p => (p.1, st.ev p.2) := by
      apply List.map_congr_left
      intro p hp
      rw [he p.2 (by simp only [Op.operands]; simpa using ⟨p.1, by simpa using hp⟩)]
    rw [this]; exact h
  | slice t x lo hi mx =>
    cases mx with
    | some _ => simp only [aval] at h
    | none =>
      have hlo : ∀ x, lo = some x → st'.ev x = st.ev x := fun y hy => he y (by simp [Op.operands, hy])
      have hhi : ∀ x, hi = some x → st'.ev x = st.ev x := fun y hy => he y (by simp [Op.operands, hy])
      simp only [aval] at *
      rw [he x (by simp [Op.operands])]
      split at h
      · exact bnd_loc hlo (bnd_mono (fun n hn => bnd_loc hhi hn) h)
      · exact ⟨h.1, bnd_loc hlo (bnd_mono (fun n hn => bnd_loc hhi hn) h.2)⟩
      · exact h.elim
  | extract x i => simp only [aval] at *; rw [he x (by simp [Op.operands])]; exact h
  | binOp op t x y yt => simp only [aval] at *; rw [he x (by simp [Op.operands]), he y (by simp [Op.operands])]; exact h
  | unOp op t x => simp only [aval] at *; rw [he x (by simp [Op.operands])]; exact h
  | convert s d x => simp only [aval] at *; rw [he x (by simp [Op.operands])]; exact h
  | makeInterface t x => simp only [aval] at *; rw [he x (by simp [Op.operands])]; exact h
  | call c =>
    obtain ⟨callee, args, argTypes⟩ := c
    have ha : ∀ x ∈ args.toList, st'.ev x = st.ev x := fun x hx => he x (by simp only [Op.operands, Call.operands]; simp [Array.mem_toList_iff.1 hx])
    simp only [aval] at *
    split at h
    · rename_i x t hl hts
      (try simp only [hl, hts])
      rw [ha x (by rw [hl]; simp)]; exact h
    · rename_i x y hl
      (try simp only [hl])
      rw [ha x (by rw [hl]; simp), ha y (by rw [hl]; simp)]; exact h
    · rename_i x y hl
      (try simp only [hl])
      rw [ha x (by rw [hl]; simp), ha y (by rw [hl]; simp)]; exact h
    · exact h.elim
  | _ => simp only [aval] at h

theorem bnd_det {st : ASt} {o : Option Operand} {d : Nat} {K : Nat → Prop} (h : bnd st o d K) : ∃ n, K n ∧ ∀ K' : Nat → Prop, K' n → bnd st o d K' := by
  unfold bnd at *
  split at h
  · exact ⟨d, h, fun K' h' => h'⟩
  · rename_i x
    split at h
    · rename_i kk i hx
      exact ⟨i.toNat, h.2, fun K' h' => by (try simp only [hx]); exact ⟨h.1, h'⟩⟩
    · exact h.elim

theorem abin_det {P : Program} {op : BinOp} {t : TypeId} {x y : AV} {K : AV → Prop} (h : abin P op t x y K) : ∃ v, K v ∧ ∀ K' : AV → Prop, K' v → abin P op t x y K' := by
  unfold abin at h
  split at h
  · split at h
    · rename_i p q ha
      exact ⟨_, h, fun K' h' => by simp only [abin, ha, if_true]; exact h'⟩
    · rename_i ha
      split at h
      · rename_i r hr
        exact ⟨_, h, fun K' h' => by simp only [abin, ha, hr]; exact h'⟩
      · exact h.elim
  · obtain ⟨r, _, h1, h2⟩ := vbin_elim h
    exact ⟨_, h2, fun K' h' => by simp only [abin]; exact h1 K' h'⟩
  · rename_i xs ys
    split at h
    · rename_i fs hfs
      obtain ⟨h1, h⟩ := h
      split at h
      · rename_i r hr
        split at h
        · exact ⟨_, h, fun K' h' => by simp only [abin, hfs, hr]; exact ⟨h1, h'⟩⟩
        · exact ⟨_, h, fun K' h' => by simp only [abin, hfs, hr]; exact ⟨h1, h'⟩⟩
        · exact h.elim
      · exact h.elim
    · exact h.elim
  · exact h.elim

theorem aval_det {P : Program} {st : ASt} {op : Op} {K : AV → Prop} (h : aval P st op K) : ∃ v, K v ∧ ∀ K' : AV → Prop, K' v → aval P st op K' := by
  cases op with
  | move x => exact ⟨_, h, fun K' h' => h'⟩
  | assign x => exact ⟨_, h, fun K' h' => h'⟩
  | pick c a b =>
    simp only [aval] at h ⊢
    split at h
    · rename_i t hc
      (try simp only [hc])
      cases t
      · exact ⟨st.ev b, by simpa using h, fun K' h' => by simpa using h'⟩
      · exact ⟨st.ev a, by simpa using h, fun K' h' => by simpa using h'⟩
    · exact h.elim
  | nilCheck x =>
    simp only [aval] at h ⊢
    split at h <;> first | exact h.elim | (rename_i hx; (try simp only [hx]); exact ⟨_, h, fun K' h' => h'⟩)
  | load t p =>
    simp only [aval] at h ⊢
    split at h
    · rename_i cs hc
      (try simp only [hc])
      exact ⟨_, h.2, fun K' h' => ⟨h.1, h'⟩⟩
    · exact h.elim
  | fieldAddr s x f =>
    simp only [aval] at h ⊢
    split at h
    · rename_i fs hk
      split at h
      · rename_i off sz hf
        obtain ⟨h0, h⟩ := h
        (try simp only [hk, hf])
        split at h <;> first | exact h.elim | (rename_i hx; (try simp only [hx]); exact ⟨_, h, fun K' h' => ⟨h0, h'⟩⟩)
      · exact h.elim
    · exact h.elim
  | indexAddr t x ix =>
    simp only [aval] at h ⊢
    split at h
    · rename_i e o k els kk i hk hx hix
      obtain ⟨h1, h2, v, hv, h⟩ := h
      (try simp only [hk, hx, hix])
      exact ⟨_, h, fun K' h' => ⟨h1, h2, v, hv, h'⟩⟩
    · exact h.elim
  | index t x ix =>
    simp only [aval] at h ⊢
    split at h
    · rename_i s kk i hk hx hix
      obtain ⟨h1, b, hb, h⟩ := h
      (try simp only [hk, hx, hix])
      exact ⟨_, h, fun K' h' => ⟨h1, b, hb, h'⟩⟩
    · exact h.elim
  | build t parts =>
    simp only [aval] at h ⊢
    split at h
    · rename_i fs hk
      split at h
      · rename_i cells hf
        (try simp only [hk, hf])
        exact ⟨_, h.2, fun K' h' => ⟨h.1, h'⟩⟩
      · exact h.elim
    · exact h.elim
  | slice t x lo hi mx =>
    cases mx with
    | some _ => simp only [aval] at h
    | none =>
      simp only [aval] at h ⊢
      split at h
      · rename_i s hk hx
        obtain ⟨l, h, hl⟩ := bnd_det h
        obtain ⟨m, h, hm⟩ := bnd_det h
        (try simp only [hk, hx])
        exact ⟨_, h.2, fun K' h' => hl _ (hm _ ⟨h.1, h'⟩)⟩
      · rename_i e o k els hk hx
        obtain ⟨h0, h⟩ := h
        obtain ⟨l, h, hl⟩ := bnd_det h
        obtain ⟨m, h, hm⟩ := bnd_det h
        (try simp only [hk, hx])
        exact ⟨_, h.2, fun K' h' => ⟨h0, hl _ (hm _ ⟨h.1, h'⟩)⟩⟩
      · exact h.elim
  | extract x i =>
    simp only [aval] at h ⊢
    split at h
    · rename_i vs hx
      obtain ⟨v, hv, h⟩ := h
      (try simp only [hx])
      exact ⟨v, h, fun K' h' => ⟨v, hv, h'⟩⟩
    · exact h.elim
  | binOp op t x y yt =>
    simp only [aval] at h ⊢
    exact abin_det h
  | unOp op t x =>
    simp only [aval] at h ⊢
    split at h <;> first | exact h.elim | (rename_i hx; (try simp only [hx]); exact ⟨_, h, fun K' h' => h'⟩)
  | convert s d x =>
    simp only [aval] at h ⊢
    obtain ⟨h0, h⟩ := h
    split at h <;> first | exact h.elim | (rename_i hk hx; (try simp only [hk, hx]); exact ⟨_, h, fun K' h' => ⟨h0, h'⟩⟩)
  | makeInterface t x =>
    simp only [aval] at h ⊢
    exact ⟨_, h.2, fun K' h' => ⟨h.1, h'⟩⟩
  | call c =>
    obtain ⟨callee, args, argTypes⟩ := c
    simp only [aval] at h ⊢
    split at h
    · rename_i x t hl hts
      (try simp only [hl, hts])
      split at h <;> first | exact h.elim | (rename_i hk hx; (try simp only [hk, hx]); exact ⟨_, h, fun K' h' => h'⟩)
    · rename_i x y hl
      (try simp only [hl])
      split at h <;> first | exact h.elim | (rename_i hx hy; (try simp only [hx, hy]); exact ⟨_, h, fun K' h' => h'⟩)
    · rename_i x y hl
      (try simp only [hl])
      split at h <;> first | exact h.elim | (rename_i hx hy; (try simp only [hx, hy]); exact ⟨_, h, fun K' h' => h'⟩)
    · exact h.elim
  | _ => simp only [aval] at h

/-! ### One operation: what it comes to, and what it writes -/
inductive MU where
  | none
  | v (k : Nat) (x : Bool × List AV)
  | f (id : Nat) (x : TypeId × Nat × Nat)
  | e (i : Nat) (cs : List AV)
def MU.app : MU → ASt → ASt
  | .none, st => st
  | .v k x, st => { st with vars := (k, x) :: st.vars }
  | .f id x, st => { st with fronts := (id, x) :: st.fronts }
  | .e i cs, st => { st with ext := st.ext.set i cs }

/-- 0: slots alone; 1: reads, or calls; 2: makes; 3: writes; 9: not let in. -/
def drawClass : Op → Nat
  | .load _ _ => 1
  | .alloc _ | .box _ _ | .buildSlice _ _ _ => 2
  | .store _ _ _ => 3
  | .makeFunc _ _ _ => 9
  | .call c => match c.callee with
    | .builtin .append => 3
    | .builtin _ => 0
    | .value _ => 1
    | .invoke _ _ => 9
  | _ => 0

structure Agree (op : Op) (dst : Option Tmp) (st st' : ASt) : Prop where
  ev : ∀ x ∈ op.operands, st'.ev x = st.ev x
  mem : ∀ t p, op = .load t p → st'.mem (st.ev p) = st.mem (st.ev p)
  new : drawClass op = 2 → ∀ d, dst = some d → look st'.vars d = look st.vars d ∧ look st'.fronts d = look st.fronts d
  all : drawClass op = 3 → (∀ k, look st'.vars k = look st.vars k) ∧ (∀ k, look st'.fronts k = look st.fronts k) ∧ st'.ext = st.ext
  fr : drawClass op = 3 → ∀ d, dst = some d → look st'.fronts d = look st.fronts d

def muOk (op : Op) (dst : Option Tmp) (mu : MU) : Prop :=
  (drawClass op ≤ 1 → mu = .none) ∧ (drawClass op = 2 → mu = .none ∨ ∃ d, dst = some d ∧ ((∃ x, mu = .v d x) ∨ ∃ x, mu = .f d x))

def freshOk (op : Op) (st : ASt) (mu : MU) : Prop := drawClass op = 2 → ∀ d x, mu = .v d x → look st.vars d = none

theorem aop_else {P : Program} {keep : Nat → Bool} {st : ASt} {dst : Option Tmp} {op : Op} {K Kp : AV → ASt → Prop} (hne : ∀ x args ts, op ≠ .call { callee := .value x, args := args, argTypes := ts }) :
    aop P keep st dst op K Kp = if isEff op = true then aeff P keep st dst op K else aval P st op fun v => K v st := by
  unfold aop
  split
  · exact absurd rfl (hne _ _ _)
  · rfl

set_option maxHeartbeats 1000000 in
theorem aop_rec {P : Program} {keep : Nat → Bool} {st : ASt} {dst : Option Tmp} {op : Op} {K : AV → ASt → Prop} (h : aop P keep st dst op K fun _ _ => False) (hc : drawClass op ≤ 3) :
    ∃ v mu, K v (mu.app st) ∧ muOk op dst mu ∧ freshOk op st mu ∧ ∀ st', Agree op dst st st' → ∀ K' : AV → ASt → Prop, K' v (mu.app st') → aop P keep st' dst op K' fun _ _ => False := by
  by_cases hcall : ∃ x args ts, op = .call { callee := .value x, args := args, argTypes := ts }
  · obtain ⟨x, args, ts, rfl⟩ := hcall
    unfold aop at h
    simp only at h
    unfold acall at h
    split at h
    · rename_i f caps hf
      obtain ⟨out, hdet, h⟩ := h
      cases out with
      | panic v => exact h.elim
      | ret v =>
        refine ⟨v, .none, h, ⟨fun _ => rfl, fun h => by simp [drawClass] at h⟩, fun h => by simp [drawClass] at h, fun st' hag K' h' => ?_⟩
        have hx : st'.ev x = st.ev x := hag.ev x (by simp [Op.operands, Call.operands])
        have ha : args.toList.map st'.ev = args.toList.map st.ev := List.map_congr_left fun y hy => hag.ev y (by simp [Op.operands, Call.operands, Array.mem_toList_iff.1 hy])
        unfold aop acall
        simp only [hx, hf, ha]
        exact ⟨_, hdet, h'⟩
    · exact h.elim
  · have hne : ∀ x args ts, op ≠ .call { callee := .value x, args := args, argTypes := ts } := fun x args ts he => hcall ⟨x, args, ts, he⟩
    rw [aop_else hne] at h
    split at h
    · rename_i heff
      unfold aeff at h
      split at h
      · rename_i t
        split at h
        · rename_i d
          obtain ⟨⟨h1, h2⟩, h⟩ := h
          refine ⟨_, .v d _, h, ⟨fun h => by simp [drawClass] at h, fun _ => .inr ⟨d, rfl, .inl ⟨_, rfl⟩⟩⟩, (fun _ d' x' he => by injection he with e1 _; subst e1; exact h1), fun st' hag K' h' => ?_⟩
          unfold aop
          simp only [isEff, if_true, aeff]
          exact ⟨⟨(hag.new rfl d rfl).1.trans h1, h2⟩, h'⟩
        · exact h.elim
      · rename_i t x
        split at h
        · rename_i d
          obtain ⟨⟨h1, h2⟩, h⟩ := h
          have hx := fun st' (hag : Agree (.box t x) (some d) st st') => hag.ev x (by simp [Op.operands])
          refine ⟨_, .v d _, h, ⟨fun h => by simp [drawClass] at h, fun _ => .inr ⟨d, rfl, .inl ⟨_, rfl⟩⟩⟩, (fun _ d' x' he => by injection he with e1 _; subst e1; exact h1), fun st' hag K' h' => ?_⟩
          unfold aop
          simp only [isEff, if_true, aeff, hx st' hag]
          exact ⟨⟨(hag.new rfl d rfl).1.trans h1, h2⟩, h'⟩
        · exact h.elim
      · rename_i t p x
        split at h
        · rename_i i off hp
          split at h
          · rename_i cs hl
            refine ⟨.junk, .v i (false, cs.take off ++ (st.ev x).cells ++ cs.drop (off + (ty P t).size)), h.2, ⟨fun h => by simp [drawClass] at h, fun h => by simp [drawClass] at h⟩, (fun h => by simp [drawClass] at h), fun st' hag K' h' => ?_⟩
            unfold aop
            simp only [isEff, if_true, aeff, hag.ev p (by simp [Op.operands]), hag.ev x (by simp [Op.operands]), hp, (hag.all rfl).1 i, hl]
            exact ⟨h.1, h'⟩
          · exact h.elim
        · rename_i i off hp
          split at h
          · rename_i cs hl
            refine ⟨.junk, .e i (cs.take off ++ (st.ev x).cells ++ cs.drop (off + (ty P t).size)), h.2, ⟨fun h => by simp [drawClass] at h, fun h => by simp [drawClass] at h⟩, (fun h => by simp [drawClass] at h), fun st' hag K' h' => ?_⟩
            unfold aop
            simp only [isEff, if_true, aeff, hag.ev p (by simp [Op.operands]), hag.ev x (by simp [Op.operands]), hp, (hag.all rfl).2.2, hl]
            refine ⟨h.1, ?_⟩
            simpa only [MU.app, (hag.all rfl).2.2] using h'
          · exact h.elim
        · exact h.elim
      · rename_i t n parts
        split at h
        · rename_i d e hk
          obtain ⟨⟨h1, h2, h3, h4, h5⟩, h⟩ := h
          have hx : ∀ st', Agree (.buildSlice t n parts) (some d) st st' → ∀ p ∈ parts.toList, st'.ev p.2 = st.ev p.2 := fun st' hag p hp => hag.ev p.2 (by simp only [Op.operands]; simpa using ⟨p.1, by simpa using hp⟩)
          refine ⟨_, .f d _, h, ⟨fun h => by simp [drawClass] at h, fun _ => .inr ⟨d, rfl, .inr ⟨_, rfl⟩⟩⟩, (fun _ d' x' he => by cases he), fun st' hag K' h' => ?_⟩
          unfold aop
          simp only [isEff, if_true, aeff, hk]
          have e1 : (parts.toList.map fun p => (st'.ev p.2).cl2) = parts.toList.map fun p => (st.ev p.2).cl2 := List.map_congr_left fun p hp => by rw [hx st' hag p hp]
          refine ⟨⟨(hag.new rfl d rfl).2.trans h1, h2, h3, h4, ?_⟩, by rw [e1]; exact h'⟩
          rw [List.all_eq_true] at h5 ⊢
          intro p hp
          rw [hx st' hag p hp]
          exact h5 p hp
        · exact h.elim
      · simp [drawClass] at hc
      · rename_i cl
        obtain ⟨callee, args, argTypes⟩ := cl
        simp only at h
        split at h
        · rename_i d s x t t' hargs hts
          obtain rfl : args = #[s, x] := by rw [← Array.toList_inj]; exact hargs
          obtain rfl : argTypes = #[t, t'] := by rw [← Array.toList_inj]; exact hts
          have hs : ∀ st', Agree (.call { callee := .builtin .append, args := #[s, x], argTypes := #[t, t'] }) (some d) st st' → st'.ev s = st.ev s ∧ st'.ev x = st.ev x := fun st' hag => ⟨hag.ev s (by simp [Op.operands, Call.operands]), hag.ev x (by simp [Op.operands, Call.operands])⟩
          have hfr : ∀ st', Agree (.call { callee := .builtin .append, args := #[s, x], argTypes := #[t, t'] }) (some d) st st' → ∀ k, look st'.fronts k = look st.fronts k := fun st' hag => (hag.all rfl).2.1
          have cl3 : ∀ mu, muOk (.call { callee := .builtin .append, args := #[s, x], argTypes := #[t, t'] }) (some d) mu := fun mu => ⟨fun h => by simp [drawClass] at h, fun h => by simp [drawClass] at h⟩
          split at h
          · rename_i e hk
            obtain ⟨h0, h⟩ := h
            split at h
            · rename_i id k els o k' ys hse hxe
              refine ⟨_, .f id _, h.2, cl3 _, (fun h => by simp [drawClass] at h), fun st' hag K' h' => ?_⟩
              unfold aop
              simp only [isEff, if_true, aeff, hk, (hs st' hag).1, (hs st' hag).2, hse, hxe, hfr st' hag]
              exact ⟨h0, h.1, h'⟩
            · rename_i id k els hse hxe
              refine ⟨_, .none, h.2, cl3 _, (fun h => by simp [drawClass] at h), fun st' hag K' h' => ?_⟩
              unfold aop
              simp only [isEff, if_true, aeff, hk, (hs st' hag).1, (hs st' hag).2, hse, hxe, hfr st' hag]
              exact ⟨h0, h.1, h'⟩
            · rename_i o k' ys hse hxe
              refine ⟨_, .f d _, h.2, cl3 _, (fun h => by simp [drawClass] at h), fun st' hag K' h' => ?_⟩
              unfold aop
              simp only [isEff, if_true, aeff, hk, (hs st' hag).1, (hs st' hag).2, hse, hxe, hfr st' hag]
              exact ⟨h0, h.1, h'⟩
            · rename_i hse hxe
              refine ⟨_, .none, h, cl3 _, (fun h => by simp [drawClass] at h), fun st' hag K' h' => ?_⟩
              unfold aop
              simp only [isEff, if_true, aeff, hk, (hs st' hag).1, (hs st' hag).2, hse, hxe, hfr st' hag]
              exact ⟨h0, h'⟩
            · exact h.elim
          · exact h.elim
        · exact h.elim
      · exact h.elim
    · rename_i heff
      obtain ⟨v, hv, hd⟩ := aval_det h
      have hcl : drawClass op ≤ 1 := by
        revert heff hc hne
        clear hd hv h hcall
        cases op with
        | call c =>
          obtain ⟨callee, args, ts⟩ := c
          cases callee with
          | value x => simp [isEff, drawClass]
          | invoke r m => simp [isEff, drawClass]
          | builtin b => cases b <;> simp [isEff, drawClass]
        | _ => simp [isEff, drawClass]
      refine ⟨v, .none, hv, ⟨fun _ => rfl, fun (h : drawClass op = 2) => by omega⟩, (fun _ d' x' he => by cases he), fun st' hag K' h' => ?_⟩
      have h2 := aval_loc (st' := st') hag.ev hag.mem (hd (fun u => K' u st') h')
      rw [aop_else hne, if_neg heff]
      exact h2
end Go.Proofs.Eng
