/- Operations upon worths: what an operation that only computes or reads comes to. -/
import Derived.Test.YtdolhcmhdjmoeaaGreatDoorEngA
set_option linter.unusedSimpArgs false
set_option linter.unusedVariables false
namespace Go.Proofs.Eng
open Go

/-! ### Types, as the walk needs them -/
inductive TK where
  | struct (fs : List (Nat × Nat))
  | array (n : Nat) (e : TypeId)
  | slice (e : TypeId)
  | str | bool | int (k : IntKind) | float (k : FloatKind) | iface | other
  | none

structure TI where
  k : TK
  size : Nat
  bytes : Nat
  zero : List AV

def AV.ofConst : Value → AV
  | .slice .none 0 0 => .nils
  | .float .f64 b => .fl b
  | .func (.func f) a b => if a.size = 0 ∧ b.size = 0 then .func f [] else .junk
  | v => if plain v then .val v else .junk

def sizeIn (P : Program) (t : TypeId) : Nat := ((P.info? t).map (·.size)).getD 0
def tkOf (P : Program) : TypeDesc → TK
  | .struct fs => .struct (fs.toList.map fun f => (f.offset, sizeIn P f.type))
  | .array n e => .array n e
  | .slice e => .slice e
  | .string => .str
  | .bool => .bool
  | .int k => .int k
  | .float k => .float k
  | .interface _ => .iface
  | _ => .other
/-- A type's row. -/
def ty (P : Program) (t : TypeId) : TI :=
  match P.info? t, P.underlying t with
  | some i, some d => { k := tkOf P d, size := i.size, bytes := i.bytes, zero := (i.zero.map fun z => z.cells.toList.map AV.ofConst).getD [] }
  | _, _ => { k := .none, size := 0, bytes := 0, zero := [] }
def TK.agg : TK → Bool
  | .struct _ | .array _ _ => true
  | _ => false

theorem tkOf_ne (P : Program) (d : TypeDesc) : tkOf P d ≠ .none := by cases d <;> simp [tkOf]
theorem ty_some {P : Program} {t : TypeId} (h : 0 < (ty P t).size) : (ty P t).k ≠ .none := by
  unfold ty at h ⊢
  split
  · exact tkOf_ne P _
  · simp_all
theorem ty_und {P : Program} {t : TypeId} (h : (ty P t).k ≠ .none) : ∃ i d, P.info? t = some i ∧ P.underlying t = some d ∧ (ty P t).k = tkOf P d ∧ (ty P t).size = i.size ∧ (ty P t).bytes = i.bytes ∧
    (ty P t).zero = (i.zero.map fun z => z.cells.toList.map AV.ofConst).getD [] := by
  unfold ty at h ⊢
  split at h
  · rename_i i d hi hd
    exact ⟨i, d, hi, hd, by simp [hi, hd], by simp [hi, hd], by simp [hi, hd], by simp [hi, hd]⟩
  · exact absurd rfl h

theorem tk_slice {P : Program} {t e : TypeId} (h : (ty P t).k = .slice e) : P.underlying t = some (.slice e) := by
  obtain ⟨i, d, _, hd, hk, _⟩ := ty_und (P := P) (t := t) (by rw [h]; simp)
  rw [h] at hk
  cases d <;> simp [tkOf] at hk
  rw [hd, hk]
theorem tk_str {P : Program} {t : TypeId} (h : (ty P t).k = .str) : P.underlying t = some .string := by
  obtain ⟨i, d, _, hd, hk, _⟩ := ty_und (P := P) (t := t) (by rw [h]; simp)
  rw [h] at hk
  cases d <;> simp [tkOf] at hk
  exact hd
theorem tk_bool {P : Program} {t : TypeId} (h : (ty P t).k = .bool) : P.underlying t = some .bool := by
  obtain ⟨i, d, _, hd, hk, _⟩ := ty_und (P := P) (t := t) (by rw [h]; simp)
  rw [h] at hk
  cases d <;> simp [tkOf] at hk
  exact hd
theorem tk_int {P : Program} {t : TypeId} {k : IntKind} (h : (ty P t).k = .int k) : P.underlying t = some (.int k) := by
  obtain ⟨i, d, _, hd, hk, _⟩ := ty_und (P := P) (t := t) (by rw [h]; simp)
  rw [h] at hk
  cases d <;> simp [tkOf] at hk
  rw [hd, hk]
theorem tk_float {P : Program} {t : TypeId} {k : FloatKind} (h : (ty P t).k = .float k) : P.underlying t = some (.float k) := by
  obtain ⟨i, d, _, hd, hk, _⟩ := ty_und (P := P) (t := t) (by rw [h]; simp)
  rw [h] at hk
  cases d <;> simp [tkOf] at hk
  rw [hd, hk]
theorem tk_struct {P : Program} {t : TypeId} {fs : List (Nat × Nat)} (h : (ty P t).k = .struct fs) : ∃ fields, P.underlying t = some (.struct fields) ∧ fs = fields.toList.map fun f => (f.offset, sizeIn P f.type) := by
  obtain ⟨i, d, _, hd, hk, _⟩ := ty_und (P := P) (t := t) (by rw [h]; simp)
  rw [h] at hk
  cases d <;> simp [tkOf] at hk
  exact ⟨_, hd, hk⟩
theorem tk_size {P : Program} {t : TypeId} (h : 0 < (ty P t).size) (w : World) : (sizeOf t).run P w = .ok (ty P t).size w := by
  obtain ⟨i, d, hi, hd, hk, hs, _⟩ := ty_und (P := P) (t := t) (ty_some h)
  simp [sizeOf, typeInfo, hi, hs]
theorem tk_agg {P : Program} {t : TypeId} (h : 0 < (ty P t).size) (w : World) : (isAgg t).run P w = .ok (ty P t).k.agg w := by
  obtain ⟨i, d, hi, hd, hk, hs, _⟩ := ty_und (P := P) (t := t) (ty_some h)
  rw [hk]
  simp only [isAgg, Sem.run_bind, run_underlying hd, Result.andThen_ok]
  cases d <;> rfl

/-! ### Numbers, texts, tests -/
def AV.str (l : List UInt8) : AV := .val (.string ⟨l.toArray⟩)
def AV.int (n : Int) : AV := .val (.int .i64 n)
def AV.bool (b : Bool) : AV := .val (.bool b)

def andI (k : IntKind) (a b : Int) : Int := k.wrap (BitVec.ofInt k.bits a &&& BitVec.ofInt k.bits b).toNat
def andNotI (k : IntKind) (a b : Int) : Int := k.wrap (BitVec.ofInt k.bits a &&& ~~~BitVec.ofInt k.bits b).toNat
def orI (k : IntKind) (a b : Int) : Int := k.wrap (BitVec.ofInt k.bits a ||| BitVec.ofInt k.bits b).toNat
/-- An operation of two operands upon values that say all of themselves. -/
def vbin (P : Program) (op : BinOp) (t : TypeId) (x y : Value) (K : AV → Prop) : Prop :=
  match op, x, y with
  | .add, .int k a, .int k' b => k = k' ∧ K (.val (.int k (k.wrap (a + b))))
  | .sub, .int k a, .int k' b => k = k' ∧ K (.val (.int k (k.wrap (a - b))))
  | .mul, .int k a, .int k' b => k = k' ∧ K (.val (.int k (k.wrap (a * b))))
  | .quo, .int k a, .int k' b => k = k' ∧ b ≠ 0 ∧ K (.val (.int k (k.wrap (a.tdiv b))))
  | .rem, .int k a, .int k' b => k = k' ∧ b ≠ 0 ∧ K (.val (.int k (a.tmod b)))
  | .and, .int k a, .int k' b => k = k' ∧ K (.val (.int k (andI k a b)))
  | .or, .int k a, .int k' b => k = k' ∧ K (.val (.int k (orI k a b)))
  | .andNot, .int k a, .int k' b => k = k' ∧ K (.val (.int k (andNotI k a b)))
  | .shr, .int k a, .int _ b => 0 ≤ b ∧ K (.val (.int k (a.fdiv (2 ^ min b.toNat k.bits))))
  | .shl, .int k a, .int _ b => 0 ≤ b ∧ K (.val (.int k (k.wrap (a * 2 ^ min b.toNat k.bits))))
  | .eql, .int k a, .int k' b => k = k' ∧ K (.val (.bool (decide (a = b))))
  | .neq, .int k a, .int k' b => k = k' ∧ K (.val (.bool (decide (¬ a = b))))
  | .lss, .int k a, .int k' b => k = k' ∧ K (.val (.bool (decide (a < b))))
  | .leq, .int k a, .int k' b => k = k' ∧ K (.val (.bool (decide (a ≤ b))))
  | .gtr, .int k a, .int k' b => k = k' ∧ K (.val (.bool (decide (b < a))))
  | .geq, .int k a, .int k' b => k = k' ∧ K (.val (.bool (decide (b ≤ a))))
  | .add, .string a, .string b => a.size + b.size ≤ 9223372036854775807 ∧ K (.val (.string (a ++ b)))
  | .eql, .string a, .string b => K (.val (.bool (decide (a.toList = b.toList))))
  | .neq, .string a, .string b => K (.val (.bool (decide (¬ a.toList = b.toList))))
  | .lss, .string a, .string b => K (.val (.bool (Op.bytesLess a.toList b.toList)))
  | .leq, .string a, .string b => K (.val (.bool (Op.bytesLess a.toList b.toList || decide (a.toList = b.toList))))
  | .gtr, .string a, .string b => K (.val (.bool (!(Op.bytesLess a.toList b.toList || decide (a.toList = b.toList)))))
  | .geq, .string a, .string b => K (.val (.bool (!Op.bytesLess a.toList b.toList)))
  | .eql, .bool a, .bool b => (ty P t).k = .bool ∧ K (.val (.bool (a == b)))
  | .neq, .bool a, .bool b => (ty P t).k = .bool ∧ K (.val (.bool (!(a == b))))
  | _, _, _ => False

theorem vbin_elim {P : Program} {op : BinOp} {t : TypeId} {x y : Value} {K : AV → Prop} (h : vbin P op t x y K) : ∃ r, plain r = true ∧ (∀ K', K' (.val r) → vbin P op t x y K') ∧ K (.val r) := by
  unfold vbin at h
  split at h <;> first
    | exact h.elim
    | exact ⟨_, rfl, fun K' h' => by simpa only [vbin] using h', h⟩
    | (obtain ⟨h1, h⟩ := h; exact ⟨_, rfl, fun K' h' => by simp only [vbin]; exact ⟨h1, h'⟩, h⟩)
    | (obtain ⟨h1, h2, h⟩ := h; exact ⟨_, rfl, fun K' h' => by simp only [vbin]; exact ⟨h1, h2, h'⟩, h⟩)

theorem beqd {α : Type} [BEq α] [LawfulBEq α] [DecidableEq α] (a b : α) : (a == b) = decide (a = b) := by
  rw [Bool.eq_iff_iff]; simp
theorem eqGuard_run {P : Program} {op : BinOp} {t : TypeId} {a b : Operand} {x y : Value} (hx : plain x = true) (hn : x ≠ .nilIface) (w : World) : (eqGuard op t a b x y).run P w = .ok () w := by
  cases op <;> first
    | (simp [eqGuard]; done)
    | (cases x <;> first | (cases y <;> simp [eqGuard]; done) | simp_all [plain])
theorem binOp_bool {P : Program} {t : TypeId} (h : (ty P t).k = .bool) (a b : Bool) (w : World) : (binOp .eql t (.bool a) (.bool b)).run P w = .ok (.bool (a == b)) w := by
  have hr := run_equalIn_bool (P := P) w 9999 t a b (tk_bool h)
  simp only [binOp]
  simp only [Op.equal, Op.maxDepth, Sem.run_bind, Sem.run_pure]
  rw [hr]; rfl
theorem binOp_boolN {P : Program} {t : TypeId} (h : (ty P t).k = .bool) (a b : Bool) (w : World) : (binOp .neq t (.bool a) (.bool b)).run P w = .ok (.bool (!(a == b))) w := by
  have hr := run_equalIn_bool (P := P) w 9999 t a b (tk_bool h)
  simp only [binOp]
  simp only [Op.equal, Op.maxDepth, Sem.run_bind, Sem.run_pure]
  rw [hr]; rfl

theorem vbin_run0 {P : Program} {op : BinOp} {t : TypeId} {x y : Value} {K : AV → Prop} (h : vbin P op t x y K) (w : World) :
    ∃ r, plain r = true ∧ (binOp op t x y).run P w = .ok r w ∧ K (.val r) := by
  unfold vbin at h
  split at h
  · obtain ⟨rfl, h⟩ := h; exact ⟨_, rfl, by simp [binOp, Op.intArith], h⟩
  · obtain ⟨rfl, h⟩ := h; exact ⟨_, rfl, by simp [binOp, Op.intArith], h⟩
  · obtain ⟨rfl, h⟩ := h; exact ⟨_, rfl, by simp [binOp, Op.intArith], h⟩
  · obtain ⟨rfl, hb, h⟩ := h; exact ⟨_, rfl, by simp [binOp, Op.intDiv, hb], h⟩
  · obtain ⟨rfl, hb, h⟩ := h; exact ⟨_, rfl, by simp [binOp, Op.intDiv, hb], h⟩
  · obtain ⟨rfl, h⟩ := h; exact ⟨_, rfl, by simp [binOp, Op.intBits, andI], h⟩
  · obtain ⟨rfl, h⟩ := h; exact ⟨_, rfl, by simp [binOp, Op.intBits, orI], h⟩
  · obtain ⟨rfl, h⟩ := h; exact ⟨_, rfl, by simp [binOp, Op.intBits, andNotI], h⟩
  · obtain ⟨hb, h⟩ := h; exact ⟨_, rfl, by simp [binOp, Op.shift, Int.not_lt.2 hb], h⟩
  · obtain ⟨hb, h⟩ := h; exact ⟨_, rfl, by simp [binOp, Op.shift, Int.not_lt.2 hb], h⟩
  · obtain ⟨rfl, h⟩ := h; exact ⟨_, rfl, by simp only [binOp, Op.intCmp, ne_eq, not_true_eq_false, if_false, Sem.run_pure, beqd], h⟩
  · obtain ⟨rfl, h⟩ := h; exact ⟨_, rfl, by simp only [binOp, Op.intCmp, ne_eq, not_true_eq_false, if_false, Sem.run_pure, bne, beqd, decide_not], h⟩
  · obtain ⟨rfl, h⟩ := h; exact ⟨_, rfl, by simp [binOp, Op.intCmp], h⟩
  · obtain ⟨rfl, h⟩ := h; exact ⟨_, rfl, by simp [binOp, Op.intCmp], h⟩
  · obtain ⟨rfl, h⟩ := h; exact ⟨_, rfl, by simp [binOp, Op.intCmp], h⟩
  · obtain ⟨rfl, h⟩ := h; exact ⟨_, rfl, by simp [binOp, Op.intCmp], h⟩
  · rename_i a b
    obtain ⟨hb, h⟩ := h
    refine ⟨_, rfl, ?_, h⟩
    have hm : ¬ ((a.size + b.size : Nat) : Int) > IntKind.i64.max := by
      have : IntKind.i64.max = 9223372036854775807 := rfl
      omega
    simp only [binOp, Op.stringOp, if_neg hm, Sem.run_pure]
  · exact ⟨_, rfl, by simp only [binOp, Op.stringOp, Sem.run_pure, beqd], h⟩
  · exact ⟨_, rfl, by simp only [binOp, Op.stringOp, Sem.run_pure, beqd, decide_not], h⟩
  · exact ⟨_, rfl, by simp only [binOp, Op.stringOp, Sem.run_pure, beqd], h⟩
  · exact ⟨_, rfl, by simp only [binOp, Op.stringOp, Sem.run_pure, beqd], h⟩
  · exact ⟨_, rfl, by simp only [binOp, Op.stringOp, Sem.run_pure, beqd], h⟩
  · exact ⟨_, rfl, by simp only [binOp, Op.stringOp, Sem.run_pure, beqd], h⟩
  · obtain ⟨hb, h⟩ := h; exact ⟨_, rfl, binOp_bool hb _ _ w, h⟩
  · obtain ⟨hb, h⟩ := h; exact ⟨_, rfl, binOp_boolN hb _ _ w, h⟩
  · exact h.elim

theorem vbin_plain {P : Program} {op : BinOp} {t : TypeId} {x y : Value} {K : AV → Prop} (h : vbin P op t x y K) : plain x = true ∧ x ≠ .nilIface := by
  unfold vbin at h
  split at h <;> first | exact h.elim | exact ⟨rfl, by simp⟩
theorem vbin_run {P : Program} {op : BinOp} {t : TypeId} {a b : Operand} {x y : Value} {K : AV → Prop} (h : vbin P op t x y K) (w : World) :
    ∃ r, plain r = true ∧ (do eqGuard op t a b x y; binOp op t x y : Sem Value).run P w = .ok r w ∧ K (.val r) := by
  obtain ⟨r, h1, h2, h3⟩ := vbin_run0 h w
  exact ⟨r, h1, by simp only [Sem.run_bind, eqGuard_run (vbin_plain h).1 (vbin_plain h).2, Result.andThen_ok, h2], h3⟩
end Go.Proofs.Eng
