/-
  The abstract state, its relation to the machine's, and the operations that leave memory as it is, run on abstract values. Conditions: the table of types is the program's.
-/
import Derived.Test.YtcblkjmnigbiiaaDoorAbsA
set_option autoImplicit false
namespace Go.Ab
open Go.RowKit

/-- What is used of a type. -/
structure TyD where
  desc : TypeDesc
  size : Nat
  bytes : Nat
  zero : Value

structure TyOk (P : Program) (t : TypeId) (d : TyD) : Prop where
  und : P.underlying t = some d.desc
  inf : ∃ i, P.info? t = some i ∧ i.size = d.size ∧ i.bytes = d.bytes ∧ i.zero = some d.zero

def TabOk (P : Program) (T : TypeId → Option TyD) : Prop := ∀ t d, T t = some d → TyOk P t d

/-- One entry of the table, as a closed fact. -/
def tyOf (P : Program) (t : TypeId) : Option TyD :=
  match P.underlying t, P.info? t with
  | some d, some i => match i.zero with | some z => some ⟨d, i.size, i.bytes, z⟩ | none => none
  | _, _ => none

theorem TyOk.of {P : Program} {t : TypeId} {d : TyD} (h : tyOf P t = some d) : TyOk P t d := by
  unfold tyOf at h
  split at h
  · rename_i u i hu hi
    split at h
    · rename_i z hz
      simp at h; subst h
      exact ⟨hu, i, hi, rfl, rfl, hz⟩
    · cases h
  · cases h

section
variable {P : Program} {t : TypeId} {d : TyD} (h : TyOk P t d) (w : World)
include h
theorem TyOk.runU : (underlying t).run P w = .ok d.desc w := run_underlying h.und w
theorem TyOk.runS : (sizeOf t).run P w = .ok d.size w := by
  obtain ⟨i, hi, hs, _, _⟩ := h.inf
  simp [sizeOf, typeInfo, hi, hs]
theorem TyOk.runZ : (zeroValue t).run P w = .ok d.zero w := by
  obtain ⟨i, hi, _, _, hz⟩ := h.inf
  simp [zeroValue, typeInfo, hi, hz]
end

/-- Structs and arrays lie in memory cell by cell. -/
def TypeDesc.many : TypeDesc → Bool
  | .struct _ | .array _ _ => true
  | _ => false

theorem TyOk.runA {P : Program} {t : TypeId} {d : TyD} (h : TyOk P t d) (w : World) : (isAgg t).run P w = .ok (TypeDesc.many d.desc) w := by
  simp only [isAgg, Sem.run_bind, h.runU, Result.andThen_ok]
  cases d.desc <;> rfl

inductive Blk where
  | data (ty : TypeId) (cells : List D)
  | box (ty : TypeId) (cells : List V)
  deriving Inhabited

structure St where
  tmps : Nat → V
  blk : Nat → Option Blk

def D.ofC : Value → D
  | .bool b => .bool b
  | .int k n => .int k n
  | .string s => .str s
  | .slice none 0 0 => .nils
  | v => .raw v
def D.ofV : Value → D
  | .agg cs => bif cs.toList.all (·.oneCell') then .agg (cs.toList.map D.ofC) else .raw (.agg cs)
  | v => D.ofC v

theorem DR.ofC (F : Nat → Prop) (w : World) (v : Value) : DR F w (D.ofC v) v := by
  unfold D.ofC
  split <;> simp [DR]

theorem DRL.ofC (F : Nat → Prop) (w : World) : ∀ l : List Value, (∀ v ∈ l, v.oneCell' = true) → DRL F w (l.map D.ofC) l
  | [], _ => by simp only [List.map_nil, DRL]
  | v :: l, h => by simp only [List.map_cons, DRL]; exact ⟨v, l, rfl, h v (by simp), DR.ofC F w v, DRL.ofC F w l fun u hu => h u (by simp [hu])⟩

theorem DR.ofV (F : Nat → Prop) (w : World) (v : Value) : DR F w (D.ofV v) v := by
  unfold D.ofV
  split
  · rename_i cs
    cases h : cs.toList.all (·.oneCell') with
    | false => simp only [cond_false, DR]
    | true =>
      simp only [cond_true, DR]
      exact ⟨_, rfl, DRL.ofC F w _ fun v hv => by
        exact List.all_eq_true.1 h v hv⟩
  · exact DR.ofC F w _

def St.opd (s : St) : Operand → V
  | .tmp t => s.tmps t
  | .const v => .d (D.ofV v)
  | .global g => .d (.raw (.pointer (some ⟨g, 0, none⟩)))
  | .func f => .fn f []

/-- The call's surroundings: the program, how many temporaries the frame has, the world at the call's beginning, which old blocks it may write, which old blocks its data may lie in. -/
structure Ctx where
  P : Program
  N : Nat
  w0 : World
  A : Nat → Prop
  F0 : Nat → Prop

def BR (X : Ctx) (io : Nat → Option Nat) (F : Nat → Prop) (w : World) (k : Nat) : Blk → Prop
  | .data ty cells => (io k = none ∧ cells = []) ∨ ∃ b arr vals, io k = some b ∧ ¬ F b ∧ (X.A b ∨ X.w0.heap.size ≤ b) ∧ w.heap[b]? = some (.cells arr ty (0, 0)) ∧ RowAt arr 0 vals ∧ DRL F w cells vals
  | .box ty cells => ∃ b arr vals, io k = some b ∧ ¬ F b ∧ (X.A b ∨ X.w0.heap.size ≤ b) ∧ w.heap[b]? = some (.cells arr ty (0, 0)) ∧ RowAt arr 0 vals ∧ VRL io F w cells vals

/-- Below the call's beginning only blocks of A have turned. -/
structure Kept (A : Nat → Prop) (w0 w : World) : Prop where
  os : w.os = w0.os
  tape : w.tape = w0.tape
  output : w.output = w0.output
  size : w0.heap.size ≤ w.heap.size
  block : ∀ b, b < w0.heap.size → ¬ A b → w.heap[b]? = w0.heap[b]?

structure SR (X : Ctx) (io : Nat → Option Nat) (F : Nat → Prop) (s : St) (a : Act) (w : World) : Prop where
  kept : Kept X.A X.w0 w
  tm : ∀ t, VR io F w (s.tmps t) (a.tmps.getD t undef)
  nt : a.tmps.size = X.N
  df : a.defers = []
  bl : ∀ k b, s.blk k = some b → BR X io F w k b
  inj : ∀ k k' b, s.blk k ≠ none → s.blk k' ≠ none → io k = some b → io k' = some b → k = k'
  ff : ∀ b, F b → b < w.heap.size ∧ (X.F0 b ∨ X.w0.heap.size ≤ b)
  f0 : ∀ b, X.F0 b → F b

def St.put (s : St) (dst : Option Tmp) (x : V) : St :=
  match dst with
  | some d => { s with tmps := fun t => bif Nat.beq t d then x else s.tmps t }
  | none => s

theorem SR.opd {X : Ctx} {io : Nat → Option Nat} {F : Nat → Prop} {s : St} {a : Act} {w : World} (h : SR X io F s a w) (x : Operand) : VR io F w (s.opd x) (a.eval x) := by
  cases x with
  | tmp t => exact h.tm t
  | const v => simp only [St.opd, Act.eval, VR]; exact DR.ofV F w v
  | global g => simp only [St.opd, Act.eval, VR, DR]
  | func f => simp only [St.opd, Act.eval, VR, VRL]; exact ⟨#[], rfl, rfl⟩

theorem SR.put {X : Ctx} {io : Nat → Option Nat} {F : Nat → Prop} {s : St} {a : Act} {w : World} (h : SR X io F s a w) {dst : Option Tmp} {x : V} {v : Value} (hd : ∀ d, dst = some d → d < X.N) (hx : VR io F w x v) : SR X io F (s.put dst x) (a.put dst v) w := by
  cases dst with
  | none => exact h
  | some d =>
    have hdn := hd d rfl
    refine ⟨h.kept, fun t => ?_, by simp [Act.put, h.nt], h.df, h.bl, h.inj, h.ff, h.f0⟩
    simp only [St.put, Act.put]
    by_cases e : t = d
    · subst e
      have : Nat.beq t t = true := by simp
      simp only [this, cond_true]
      simp only [Array.getD_eq_getD_getElem?, Array.getElem?_setIfInBounds]
      simp [h.nt, hdn, hx]
    · have : Nat.beq t d = false := by
        cases hb : Nat.beq t d with
        | false => rfl
        | true => exact absurd (Nat.eq_of_beq_eq_true hb) e
      simp only [this, cond_false]
      have h1 := h.tm t
      simp only [Array.getD_eq_getD_getElem?] at h1 ⊢
      rw [Array.getElem?_setIfInBounds_ne (by omega)]
      exact h1

/-! ## Operations on data -/

/-- A result with the condition under which it is one. -/
abbrev Ev (α : Type) := Option (Prop × α)

def D.bin (op : BinOp) : D → D → Ev D
  | .int k a, .int k' b =>
    match op with
    | .shl => some (0 ≤ b, .int k (k.wrap (a * 2 ^ (min b.toNat k.bits))))
    | .shr => some (0 ≤ b, .int k (a.fdiv (2 ^ (min b.toNat k.bits))))
    | .add => some (k = k', .int k (k.wrap (a + b)))
    | .sub => some (k = k', .int k (k.wrap (a - b)))
    | .mul => some (k = k', .int k (k.wrap (a * b)))
    | .quo => some (k = k' ∧ b ≠ 0, .int k (k.wrap (a.tdiv b)))
    | .rem => some (k = k' ∧ b ≠ 0, .int k (a.tmod b))
    | .and => some (k = k', .int k (k.wrap (BitVec.ofInt k.bits a &&& BitVec.ofInt k.bits b).toNat))
    | .or => some (k = k', .int k (k.wrap (BitVec.ofInt k.bits a ||| BitVec.ofInt k.bits b).toNat))
    | .xor => some (k = k', .int k (k.wrap (BitVec.ofInt k.bits a ^^^ BitVec.ofInt k.bits b).toNat))
    | .andNot => some (k = k', .int k (k.wrap (BitVec.ofInt k.bits a &&& ~~~ BitVec.ofInt k.bits b).toNat))
    | .eql => some (k = k', .bool (decide (a = b)))
    | .neq => some (k = k', .bool (!decide (a = b)))
    | .lss => some (k = k', .bool (decide (a < b)))
    | .leq => some (k = k', .bool (decide (a ≤ b)))
    | .gtr => some (k = k', .bool (decide (b < a)))
    | .geq => some (k = k', .bool (decide (b ≤ a)))
  | .str a, .str b =>
    match op with
    | .add => some (((a.size + b.size : Nat) : Int) ≤ IntKind.i64.max, .str (a ++ b))
    | .eql => some (True, .bool (a.toList == b.toList))
    | .neq => some (True, .bool !(a.toList == b.toList))
    | .lss => some (True, .bool (Op.bytesLess a.toList b.toList))
    | _ => none
  | .bool a, .bool b =>
    match op with
    | .eql => some (True, .bool (a == b))
    | .neq => some (True, .bool !(a == b))
    | _ => none
  | _, _ => none

def D.un (op : UnOp) : D → Ev D
  | .int k n => match op with
    | .neg => some (True, .int k (k.wrap (0 - n)))
    | .xor => some (True, .int k (k.wrap (BitVec.ofInt k.bits (if k.signed then -1 else k.max) ^^^ BitVec.ofInt k.bits n).toNat))
    | _ => none
  | .bool b => match op with
    | .not => some (True, .bool !b)
    | _ => none
  | _ => none

def TypeDesc.isBool : TypeDesc → Bool
  | .bool => true
  | _ => false

/-- A comparison of truth values looks at the type. -/
def boolFits (dd : TyD) : D → Prop
  | .bool _ => TypeDesc.isBool dd.desc = true
  | _ => True

def D.toValue : D → Value
  | .bool b => .bool b
  | .int k n => .int k n
  | .str s => .string s
  | _ => Go.undef

theorem ex_of {P : Program} {w : World} {m : Sem Value} {F : Nat → Prop} {r : D} (h2 : DR F w r (D.toValue r)) (h : m.run P w = .ok (D.toValue r) w) : ∃ v, m.run P w = .ok v w ∧ DR F w r v := ⟨_, h, h2⟩

theorem run_equalIn_bool {P : Program} {t : TypeId} {w : World} (hu : (underlying t).run P w = .ok .bool w) (d : Nat) (a b : Bool) : (Op.equalIn (d + 1) t (.bool a) (.bool b)).run P w = .ok (a == b) w := by
  simp [Op.equalIn, hu]

theorem run_equal_bool {P : Program} {t : TypeId} {w : World} (hu : (underlying t).run P w = .ok .bool w) (a b : Bool) : (Op.equal t (.bool a) (.bool b)).run P w = .ok (a == b) w :=
  run_equalIn_bool hu 9999 a b

theorem run_bin {P : Program} {F : Nat → Prop} {w : World} (op : BinOp) (t : TypeId) (x y : Operand) {p q : D} {a b : Value} {C : Prop} {r : D} {dd : TyD} (ht : TyOk P t dd) (hb : boolFits dd p) (hp : DR F w p a) (hq : DR F w q b) (h : D.bin op p q = some (C, r)) (hC : C) :
    ∃ v, (do eqGuard op t x y a b; binOp op t a b : Sem Value).run P w = .ok v w ∧ DR F w r v := by
  cases p <;> try (simp only [D.bin] at h; cases h; done)
  case int k m =>
    cases q <;> try (simp only [D.bin] at h; cases h; done)
    case int k' n =>
      simp only [DR] at hp hq
      subst hp hq
      have hg : (eqGuard op t x y (.int k m) (.int k' n)).run P w = .ok () w := by
        unfold eqGuard; split <;> rfl
      simp only [Sem.run_bind, hg, Result.andThen_ok]
      cases op <;> simp only [D.bin, Option.some.injEq, Prod.mk.injEq] at h <;> obtain ⟨rfl, rfl⟩ := h
      case shl => exact ex_of (by simp only [DR, D.toValue]) (by simp [binOp, Op.shift, Int.not_lt.2 hC, D.toValue])
      case shr => exact ex_of (by simp only [DR, D.toValue]) (by simp [binOp, Op.shift, Int.not_lt.2 hC, D.toValue])
      case quo => obtain ⟨rfl, hC⟩ := hC; exact ex_of (by simp only [DR, D.toValue]) (by simp [binOp, Op.intDiv, hC, D.toValue])
      case rem => obtain ⟨rfl, hC⟩ := hC; exact ex_of (by simp only [DR, D.toValue]) (by simp [binOp, Op.intDiv, hC, D.toValue])
      all_goals
        subst hC
        refine ex_of (by simp only [DR, D.toValue]) ?_
        simp only [binOp, ne_eq, not_true_eq_false, if_false]
        rfl
  case str s =>
    cases q <;> try (simp only [D.bin] at h; cases h; done)
    case str u =>
      simp only [DR] at hp hq
      subst hp hq
      have hg : (eqGuard op t x y (.string s) (.string u)).run P w = .ok () w := by
        unfold eqGuard; split <;> rfl
      simp only [Sem.run_bind, hg, Result.andThen_ok]
      cases op <;> simp only [D.bin] at h <;> (try (cases h; done)) <;> simp only [Option.some.injEq, Prod.mk.injEq] at h <;> obtain ⟨rfl, rfl⟩ := h
      case add => exact ex_of (by simp only [DR, D.toValue]) (by simp only [binOp, Op.stringOp]; rw [if_neg (by omega)]; rfl)
      all_goals exact ex_of (by simp only [DR, D.toValue]) rfl
  case bool s =>
    cases q <;> try (simp only [D.bin] at h; cases h; done)
    case bool u =>
      simp only [DR] at hp hq
      subst hp hq
      have hg : (eqGuard op t x y (.bool s) (.bool u)).run P w = .ok () w := by
        unfold eqGuard; split <;> rfl
      simp only [Sem.run_bind, hg, Result.andThen_ok]
      have hd : dd.desc = .bool := by
        revert hb; simp only [boolFits]; cases dd.desc <;> simp [TypeDesc.isBool]
      have hu := ht.runU w
      rw [hd] at hu
      cases op <;> simp only [D.bin] at h <;> (try (cases h; done)) <;> simp only [Option.some.injEq, Prod.mk.injEq] at h <;> obtain ⟨rfl, rfl⟩ := h
      all_goals exact ex_of (by simp only [DR, D.toValue]) (by simp only [binOp, Sem.run_bind, run_equal_bool hu, Result.andThen_ok]; rfl)

theorem run_un {P : Program} {F : Nat → Prop} {w : World} (op : UnOp) {p : D} {a : Value} {C : Prop} {r : D} (hp : DR F w p a) (h : D.un op p = some (C, r)) : ∃ v, (Op.unary op a).run P w = .ok v w ∧ DR F w r v := by
  cases p <;> try (simp only [D.un] at h; cases h; done)
  case int k m =>
    simp only [DR] at hp; subst hp
    cases op <;> simp only [D.un] at h <;> (try (cases h; done)) <;> simp only [Option.some.injEq, Prod.mk.injEq] at h <;> obtain ⟨rfl, rfl⟩ := h
    · exact ⟨_, rfl, by simp only [DR]⟩
    · exact ⟨_, rfl, by simp only [DR]⟩
  case bool b =>
    simp only [DR] at hp; subst hp
    cases op <;> simp only [D.un] at h <;> (try (cases h; done)) <;> simp only [Option.some.injEq, Prod.mk.injEq] at h <;> obtain ⟨rfl, rfl⟩ := h
    exact ⟨_, by simp [Op.unary]; rfl, by simp only [DR]⟩
end Go.Ab
