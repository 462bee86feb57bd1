/-
  The abstract state, its relation to the machine's, and arithmetic on data. Conditions: the table of types is the program's.
-/
import Derived.Test.YtcblkjmnigbiiaaDoorVA
set_option linter.unusedSimpArgs false
namespace Go.Vw
open Go.RowKit

/-- What is used of a type. -/
structure TyD where
  desc : TypeDesc
  size : Nat
  bytes : Nat
  zero : Value

structure TyOk (P : Program) (t : TypeId) (d : TyD) : Prop where
  und : P.underlying t = some d.desc
  inf : ∃ i, P.info? t = some i ∧ i.size = d.size ∧ i.bytes = d.bytes ∧ i.zero = some d.zero

def TabOk (P : Program) (T : TypeId → Option TyD) : Prop := ∀ t d, T t = some d → TyOk P t d

/-- One entry of the table, as a closed fact. -/
def tyOf (P : Program) (t : TypeId) : Option TyD :=
  match P.underlying t, P.info? t with
  | some d, some i => match i.zero with | some z => some ⟨d, i.size, i.bytes, z⟩ | none => none
  | _, _ => none

theorem TyOk.of {P : Program} {t : TypeId} {d : TyD} (h : tyOf P t = some d) : TyOk P t d := by
  unfold tyOf at h
  split at h
  · rename_i u i hu hi
    split at h
    · rename_i z hz
      simp at h; subst h
      exact ⟨hu, i, hi, rfl, rfl, hz⟩
    · cases h
  · cases h

section
variable {P : Program} {t : TypeId} {d : TyD} (h : TyOk P t d) (w : World)
include h
theorem TyOk.runU : (underlying t).run P w = .ok d.desc w := run_underlying h.und w
theorem TyOk.runS : (sizeOf t).run P w = .ok d.size w := by
  obtain ⟨i, hi, hs, _, _⟩ := h.inf
  simp [sizeOf, typeInfo, hi, hs]
theorem TyOk.runZ : (zeroValue t).run P w = .ok d.zero w := by
  obtain ⟨i, hi, _, _, hz⟩ := h.inf
  simp [zeroValue, typeInfo, hi, hz]
end

/-- Structs and arrays lie in memory cell by cell. -/
def TypeDesc.many : TypeDesc → Bool
  | .struct _ | .array _ _ => true
  | _ => false

theorem TyOk.runA {P : Program} {t : TypeId} {d : TyD} (h : TyOk P t d) (w : World) : (isAgg t).run P w = .ok (TypeDesc.many d.desc) w := by
  simp only [isAgg, Sem.run_bind, h.runU, Result.andThen_ok]
  cases d.desc <;> rfl

structure St : Type 1 where
  tmps : Nat → V
  blk : Nat → Option Blk
  dfs : List (FuncId × List V)

def D.ofC : Value → D
  | .bool b => .bool b
  | .int k n => .int k n
  | .string s => .str s.data.toList
  | .slice none 0 0 => .nils
  | v => .raw v
def D.ofL : List Value → List D
  | [] => []
  | v :: l => D.ofC v :: D.ofL l
def D.ofV : Value → D
  | .agg cs => bif cs.toList.all (·.oneCell') then .agg (D.ofL cs.toList) else .raw (.agg cs)
  | v => D.ofC v

theorem DR.ofC (F : Nat → Prop) (w : World) (v : Value) : DR F w (D.ofC v) v := by
  unfold D.ofC
  split <;> simp [DR]

theorem D.ofL_eq (l : List Value) : D.ofL l = l.map D.ofC := by induction l <;> simp [D.ofL, *]

theorem DR.ofV (F : Nat → Prop) (w : World) (v : Value) : DR F w (D.ofV v) v := by
  unfold D.ofV
  split
  · rename_i cs
    cases h : cs.toList.all (·.oneCell') with
    | false => simp only [cond_false, DR]
    | true =>
      simp only [cond_true, DR]
      refine ⟨cs, rfl, by simp [D.ofL_eq], ?_⟩
      rw [DRA_iff]
      intro i c hi
      simp only [D.ofL_eq, List.getElem?_map, Option.map_eq_some_iff] at hi
      obtain ⟨v, hv, rfl⟩ := hi
      exact ⟨v, by simpa using hv, List.all_eq_true.1 h v (List.mem_of_getElem? hv), DR.ofC F w v⟩
  · exact DR.ofC F w _

/-- A constant, its head in the open. -/
def constV (v : Value) : V :=
  match D.ofV v with
  | .bool b => .d (.bool b)
  | .int k n => .d (.int k n)
  | .str s => .d (.str s)
  | .agg cs => .d (.agg cs)
  | .nils => .d .nils
  | x => .d x
theorem constV_eq (v : Value) : constV v = .d (D.ofV v) := by unfold constV; split <;> simp_all
def St.opd (s : St) : Operand → V
  | .tmp t => s.tmps t
  | .const v => constV v
  | .global g => .d (.raw (.pointer (some ⟨g, 0, none⟩)))
  | .func f => .d (.fn f [])

/-- The call's surroundings: the program, how many temporaries the frame has, the world at the call's beginning, which old blocks it may write, which old blocks its data may lie in; which keys must not be given to other blocks, and their blocks. -/
structure Ctx where
  P : Program
  T : TypeId → Option TyD
  ok : TabOk P T
  N : Nat
  w0 : World
  A : Nat → Prop
  F0 : Nat → Prop
  K : List Nat
  io0 : Nat → Option Nat

/-- The cells of a list's elements. -/
def LRA (F : Nat → Prop) (w : World) (g : Nat → Option Value) (off sz : Nat) {α : Type} (e : α → List D) (l : List α) : Prop :=
  ∀ i a, l[i]? = some a → (e a).length = sz ∧ DRA F w g (off + i * sz) (e a)

/-- The cells of a list's elements, the i-th of which is the value v. -/
def HRA (io : Keys) (F : Nat → Prop) (w : World) (g : Nat → Option Value) (sz : Nat) {α : Type} (e : α → List D) (i : Nat) (v : V) (l : List α) : Prop :=
  (∀ j a, j ≠ i → l[j]? = some a → (e a).length = sz ∧ DRA F w g (j * sz) (e a)) ∧ sz = 1 ∧ ∃ u, g i = some u ∧ u.oneCell' = true ∧ VR io F w v u

def BR (A : Nat → Prop) (n0 : Nat) (io : Keys) (F : Nat → Prop) (w : World) (k : Nat) : Blk → Prop
  | .data ty sz e _ l => (io.io k = none ∧ l = []) ∨ ∃ b arr, io.io k = some b ∧ ¬ F b ∧ (A b ∨ n0 ≤ b) ∧ w.heap[b]? = some (.cells arr ty (0, 0)) ∧ LRA F w (fun j => arr[j]?) 0 sz e l
  | .box ty cells => ∃ b arr, io.io k = some b ∧ ¬ F b ∧ (A b ∨ n0 ≤ b) ∧ w.heap[b]? = some (.cells arr ty (0, 0)) ∧ VRA io F w (fun j => arr[j]?) 0 cells
  | .hole ty sz e _ l i v => ∃ b arr, io.io k = some b ∧ ¬ F b ∧ (A b ∨ n0 ≤ b) ∧ w.heap[b]? = some (.cells arr ty (0, 0)) ∧ HRA io F w (fun j => arr[j]?) sz e i v l

/-- Below the call's beginning only blocks of A have turned. -/
structure Kept (A : Nat → Prop) (w0 w : World) : Prop where
  os : w.os = w0.os
  tape : w.tape = w0.tape
  output : w.output = w0.output
  size : w0.heap.size ≤ w.heap.size
  block : ∀ b, b < w0.heap.size → ¬ A b → w.heap[b]? = w0.heap[b]?
  shape : Shapes w0 w

/-- What is put off stands for closures and what they have captured. -/
def DfR (io : Keys) (F : Nat → Prop) (w : World) : List (FuncId × List V) → List Deferred → Prop
  | [], ds => ds = []
  | (f, cs) :: r, ds => ∃ arr rest, ds = { target := .fn (.func f) arr, args := #[] } :: rest ∧ arr.size = cs.length ∧ VRA io F w (fun i => arr[i]?) 0 cs ∧ DfR io F w r rest

/-- How long the lists of the blocks are. -/
def St.ln (s : St) (k : Nat) : Nat := match s.blk k with | some (.data _ _ _ _ l) => l.length | some (.hole _ _ _ _ l _ _) => l.length | _ => 0
def St.keys (s : St) (io : Nat → Option Nat) : Keys := ⟨io, s.ln⟩

structure SR (X : Ctx) (io : Nat → Option Nat) (F : Nat → Prop) (s : St) (a : Act) (w : World) : Prop where
  kept : Kept X.A X.w0 w
  tm : ∀ t, VR (s.keys io) F w (s.tmps t) (a.tmps.getD t undef)
  nt : a.tmps.size = X.N
  df : DfR (s.keys io) F w s.dfs a.defers
  bl : ∀ k b, s.blk k = some b → BR X.A X.w0.heap.size (s.keys io) F w k b
  inj : ∀ k k' b, s.blk k ≠ none → s.blk k' ≠ none → io k = some b → io k' = some b → k = k'
  ff : ∀ b, F b → b < w.heap.size ∧ (X.F0 b ∨ X.w0.heap.size ≤ b ∨ X.A b)
  f0 : ∀ b, X.F0 b → F b
  st : ∀ k, k ∈ X.K → io k = X.io0 k

def St.put (s : St) (dst : Option Tmp) (x : V) : St :=
  match dst with
  | some d => { s with tmps := fun t => bif Nat.beq t d then x else s.tmps t }
  | none => s

theorem opd_of {io : Keys} {F : Nat → Prop} {s : St} {a : Act} {w : World} (h : ∀ t, VR io F w (s.tmps t) (a.tmps.getD t undef)) (x : Operand) : VR io F w (s.opd x) (a.eval x) := by
  cases x with
  | tmp t => exact h t
  | const v => simp only [St.opd, Act.eval, constV_eq, VR]; exact DR.ofV F w v
  | global g => simp only [St.opd, Act.eval, VR, DR]
  | func f => simp only [St.opd, Act.eval, VR, DR]; exact ⟨#[], rfl, rfl, by simp [DRA]⟩
theorem SR.opd {X : Ctx} {io : Nat → Option Nat} {F : Nat → Prop} {s : St} {a : Act} {w : World} (h : SR X io F s a w) (x : Operand) : VR (s.keys io) F w (s.opd x) (a.eval x) := opd_of h.tm x

theorem tm_put {io : Keys} {F : Nat → Prop} {s : St} {a : Act} {w : World} (h : ∀ t, VR io F w (s.tmps t) (a.tmps.getD t undef)) {dst : Option Tmp} {x : V} {v : Value} (hd : ∀ d, dst = some d → d < a.tmps.size) (hx : VR io F w x v) : ∀ t, VR io F w ((s.put dst x).tmps t) ((a.put dst v).tmps.getD t undef) := by
  cases dst with
  | none => exact h
  | some d =>
    have hdn := hd d rfl
    intro t
    simp only [St.put, Act.put]
    by_cases e : t = d
    · subst e
      have : Nat.beq t t = true := by simp
      simp only [this, cond_true]
      simp only [Array.getD_eq_getD_getElem?, Array.getElem?_setIfInBounds]
      simp [hdn, hx]
    · have : Nat.beq t d = false := by
        cases hb : Nat.beq t d with
        | false => rfl
        | true => exact absurd (Nat.eq_of_beq_eq_true hb) e
      simp only [this, cond_false]
      have h1 := h t
      simp only [Array.getD_eq_getD_getElem?] at h1 ⊢
      rw [Array.getElem?_setIfInBounds_ne (by omega)]
      exact h1

theorem put_defers (a : Act) (dst : Option Tmp) (v : Value) : (a.put dst v).defers = a.defers := by cases dst <;> rfl
theorem put_size (a : Act) (dst : Option Tmp) (v : Value) : (a.put dst v).tmps.size = a.tmps.size := by cases dst <;> simp [Act.put]
theorem put_blk (s : St) (dst : Option Tmp) (x : V) : (s.put dst x).blk = s.blk := by cases dst <;> rfl
theorem put_dfs (s : St) (dst : Option Tmp) (x : V) : (s.put dst x).dfs = s.dfs := by cases dst <;> rfl

theorem put_keys (s : St) (dst : Option Tmp) (x : V) (io : Nat → Option Nat) : (s.put dst x).keys io = s.keys io := by cases dst <;> rfl
theorem SR.put {X : Ctx} {io : Nat → Option Nat} {F : Nat → Prop} {s : St} {a : Act} {w : World} (h : SR X io F s a w) {dst : Option Tmp} {x : V} {v : Value} (hd : ∀ d, dst = some d → d < X.N) (hx : VR (s.keys io) F w x v) : SR X io F (s.put dst x) (a.put dst v) w :=
  ⟨h.kept, by rw [put_keys]; exact tm_put h.tm (fun d e => by rw [h.nt]; exact hd d e) hx, (put_size a dst v).trans h.nt, by rw [put_defers, put_dfs, put_keys]; exact h.df, by rw [put_blk, put_keys]; exact h.bl, by rw [put_blk]; exact h.inj, h.ff, h.f0, h.st⟩

/-! ## Arithmetic on data -/

/-- A result with the condition under which it is one. -/
abbrev Ev (α : Type 1) := Option (Prop × α)

/-- The numbers of a kind. -/
def lim : IntKind → Int → Prop
  | .i64, e => -9223372036854775808 ≤ e ∧ e < 9223372036854775808
  | .u64, e => 0 ≤ e ∧ e < 18446744073709551616
  | .i32, e => -2147483648 ≤ e ∧ e < 2147483648
  | .u32, e => 0 ≤ e ∧ e < 4294967296
  | .u8, e => 0 ≤ e ∧ e < 256
  | _, _ => False

theorem wrap_lim : ∀ {k : IntKind} {e : Int}, lim k e → k.wrap e = e
  | .i64, e, h => IntWalk.i64_in e (by simp only [lim] at h; omega)
  | .u64, e, h => by simp only [lim] at h; unfold IntKind.wrap; simp [IntKind.bits, IntKind.signed]; omega
  | .i32, e, h => by simp only [lim] at h; unfold IntKind.wrap; simp [IntKind.bits, IntKind.signed]; split <;> omega
  | .u32, e, h => by simp only [lim] at h; unfold IntKind.wrap; simp [IntKind.bits, IntKind.signed]; omega
  | .u8, e, h => by simp only [lim] at h; unfold IntKind.wrap; simp [IntKind.bits, IntKind.signed]; omega
  | .i8, _, h => h.elim
  | .i16, _, h => h.elim
  | .u16, _, h => h.elim

/-- The rest by a kind's size. -/
def rest? : IntKind → Option Int
  | .u64 => some 18446744073709551616
  | .u32 => some 4294967296
  | .u8 => some 256
  | _ => none
theorem wrap_rest : ∀ {k : IntKind} {m : Int} (e : Int), rest? k = some m → k.wrap e = e % m
  | .u64, _, e, h => by cases h; unfold IntKind.wrap; simp [IntKind.bits, IntKind.signed]
  | .u32, _, e, h => by cases h; unfold IntKind.wrap; simp [IntKind.bits, IntKind.signed]
  | .u8, _, e, h => by cases h; unfold IntKind.wrap; simp [IntKind.bits, IntKind.signed]

theorem lim_bits {k : IntKind} {e : Int} (h : lim k e) (h0 : 0 ≤ e) : e < 2 ^ k.bits := by
  cases k <;> simp only [lim] at h <;> (try exact h.elim) <;> simp only [IntKind.bits] <;> omega

/-- Powers of two, written out. -/
def pw? : Nat → Option Int
  | 1 => some 2
  | 8 => some 256
  | 16 => some 65536
  | 31 => some 2147483648
  | 32 => some 4294967296
  | 63 => some 9223372036854775808
  | _ => none
theorem pw_eq : ∀ {n : Nat} {c : Int}, pw? n = some c → (2 : Int) ^ n = c := fun {n c} h => by
  unfold pw? at h
  split at h <;> first | (cases h; rfl) | cases h

/-- What an operation on integers comes to; the shift's count and the index as natural numbers where they are seen to be. -/
def binI (op : BinOp) (k k' : IntKind) (a b : Int) : Ev D :=
  match op with
  | .shl => match b with
    | .ofNat n => match pw? n with
      | some c => some (n < k.bits ∧ lim k (a * c), .int k (a * c))
      | none => some (n < k.bits ∧ lim k (a * 2 ^ n), .int k (a * 2 ^ n))
    | .negSucc _ => none
  | .shr => match b with
    | .ofNat n => match pw? n with
      | some c => some (n < k.bits, .int k (a / c))
      | none => some (n < k.bits, .int k (a / 2 ^ n))
    | .negSucc _ => none
  | .add => some (k = k' ∧ lim k (a + b), .int k (a + b))
  | .sub => some (k = k' ∧ lim k (a - b), .int k (a - b))
  | .mul => some (k = k' ∧ lim k (a * b), .int k (a * b))
  | .quo => some (k = k' ∧ 0 ≤ a ∧ 0 < b ∧ lim k a, .int k (a / b))
  | .rem => some (k = k' ∧ 0 ≤ a ∧ 0 < b, .int k (a % b))
  | .and => some (k = k' ∧ 0 ≤ a ∧ 0 ≤ b ∧ lim k a ∧ lim k b, .int k ((a.toNat &&& b.toNat : Nat) : Int))
  | .or => some (k = k' ∧ 0 ≤ a ∧ 0 ≤ b ∧ lim k a ∧ lim k b, .int k ((a.toNat ||| b.toNat : Nat) : Int))
  | .xor => some (k = k' ∧ 0 ≤ a ∧ 0 ≤ b ∧ lim k a ∧ lim k b, .int k ((a.toNat ^^^ b.toNat : Nat) : Int))
  | .andNot => none
  | .eql => some (k = k', .bool (decide (a = b)))
  | .neq => some (k = k', .bool (!decide (a = b)))
  | .lss => some (k = k', .bool (decide (a < b)))
  | .leq => some (k = k', .bool (decide (a ≤ b)))
  | .gtr => some (k = k', .bool (decide (b < a)))
  | .geq => some (k = k', .bool (decide (b ≤ a)))

/-- The same with the rest by the kind's size, and the model's own words. -/
def binR (op : BinOp) (k k' : IntKind) (a b : Int) : Ev D :=
  match op, rest? k with
  | .shl, some m => some (0 ≤ b ∧ b < k.bits, .int k ((a * 2 ^ b.toNat) % m))
  | .shr, _ => some (0 ≤ b ∧ b < k.bits, .int k (a / 2 ^ b.toNat))
  | .add, some m => some (k = k', .int k ((a + b) % m))
  | .sub, some m => some (k = k', .int k ((a - b) % m))
  | .mul, some m => some (k = k', .int k ((a * b) % m))
  | .quo, _ => some (k = k' ∧ b ≠ 0, .int k (k.wrap (a.tdiv b)))
  | .rem, _ => some (k = k' ∧ b ≠ 0, .int k (a.tmod b))
  | _, _ => none

def D.bin (i : BinOp → IntKind → IntKind → Int → Int → Ev D) (op : BinOp) : D → D → Ev D
  | .int k a, .int k' b => i op k k' a b
  | .str a, .str b =>
    match op with
    | .add => some (((a.length + b.length : Nat) : Int) ≤ IntKind.i64.max, .str (a ++ b))
    | .eql => some (True, .bool (decide (a = b)))
    | .neq => some (True, .bool !(decide (a = b)))
    | .lss => some (True, .bool (Op.bytesLess a b))
    | _ => none
  | .bool a, .bool b =>
    match op with
    | .eql => some (True, .bool (a == b))
    | .neq => some (True, .bool !(a == b))
    | _ => none
  | _, _ => none

def D.un (op : UnOp) : D → Ev D
  | .int k n => match op with
    | .neg => some (lim k (-n), .int k (-n))
    | _ => none
  | .bool b => match op with
    | .not => some (True, .bool !b)
    | _ => none
  | _ => none
def D.unR (op : UnOp) : D → Ev D
  | .int k n => match op, rest? k with
    | .neg, some m => some (True, .int k ((-n) % m))
    | .neg, none => some (True, .int k (k.wrap (-n)))
    | _, _ => none
  | _ => none

def TypeDesc.isBool : TypeDesc → Bool
  | .bool => true
  | _ => false

/-- A comparison of truth values looks at the type. -/
def boolFits (dd : TyD) : D → Prop
  | .bool _ => TypeDesc.isBool dd.desc = true
  | _ => True

def D.toValue : D → Value
  | .bool b => .bool b
  | .int k n => .int k n
  | .str s => .string ⟨s.toArray⟩
  | _ => Go.undef

theorem ex_of {P : Program} {w : World} {m : Sem Value} {F : Nat → Prop} {r : D} (h2 : DR F w r (D.toValue r)) (h : m.run P w = .ok (D.toValue r) w) : ∃ v, m.run P w = .ok v w ∧ DR F w r v := ⟨_, h, h2⟩

theorem run_equal_bool {P : Program} {t : TypeId} {w : World} (hu : (underlying t).run P w = .ok .bool w) (a b : Bool) : (Op.equal t (.bool a) (.bool b)).run P w = .ok (a == b) w := by
  have : ∀ d, (Op.equalIn (d + 1) t (.bool a) (.bool b)).run P w = .ok (a == b) w := fun d => by simp [Op.equalIn, hu]
  exact this 9999

theorem toNat_ofInt_nonneg {n : Nat} {a : Int} (h0 : 0 ≤ a) (h : a < 2 ^ n) : (BitVec.ofInt n a).toNat = a.toNat := by
  rw [BitVec.toNat_ofInt]
  have : a % ((2 ^ n : Nat) : Int) = a := Int.emod_eq_of_lt h0 (by simpa using h)
  rw [this]

/-- Bits of two numbers that are in the kind and not negative. -/
theorem run_bits {k : IntKind} {a b : Int} (f : Nat → Nat → Nat) (h0 : 0 ≤ a) (h1 : 0 ≤ b) (ha : lim k a) (hb : lim k b) (hf : ∀ n x y, x < 2 ^ n → y < 2 ^ n → f x y < 2 ^ n) : k.wrap ((f a.toNat b.toNat : Nat) : Int) = (f a.toNat b.toNat : Nat) := by
  refine wrap_lim ?_
  have g : ∀ n : Nat, a < 2 ^ n → b < 2 ^ n → ((f a.toNat b.toNat : Nat) : Int) < 2 ^ n := fun n h2 h3 => by
    have := hf n a.toNat b.toNat (by have : ((a.toNat : Nat) : Int) < ((2 ^ n : Nat) : Int) := by simp; omega
                                     omega) (by have : ((b.toNat : Nat) : Int) < ((2 ^ n : Nat) : Int) := by simp; omega
                                                omega)
    have : ((f a.toNat b.toNat : Nat) : Int) < ((2 ^ n : Nat) : Int) := by omega
    simpa using this
  have s := g (k.bits - 1)
  have t := g k.bits
  cases k <;> simp only [lim] at ha hb ⊢ <;> (try exact ha.elim) <;> simp only [IntKind.bits] at s t
  · have := s (by omega) (by omega); omega
  · have := s (by omega) (by omega); omega
  · have := t (by omega) (by omega); omega
  · have := t (by omega) (by omega); omega
  · have := t (by omega) (by omega); omega

theorem run_binInt {P : Program} {F : Nat → Prop} {w : World} (op : BinOp) (t : TypeId) {k k' : IntKind} {a b : Int} {C : Prop} {r : D} (h : binI op k k' a b = some (C, r) ∨ binR op k k' a b = some (C, r)) (hC : C) :
    ∃ v, (binOp op t (.int k a) (.int k' b)).run P w = .ok v w ∧ DR F w r v := by
  have sh : ∀ n : Nat, n < k.bits → min n k.bits = n := fun n h => by omega
  have nl : ∀ n : Nat, ¬ ((n : Int) < 0) := fun n => by omega
  have fd : ∀ n : Nat, a.fdiv (2 ^ n) = a / 2 ^ n := fun n => Int.fdiv_eq_ediv_of_nonneg a (Int.le_of_lt (Int.pow_pos (by decide)))
  rcases h with h | h
  · cases op <;> simp only [binI] at h
    case shl =>
      cases b with
      | ofNat n =>
        have h : some (n < k.bits ∧ lim k (a * 2 ^ n), D.int k (a * 2 ^ n)) = some (C, r) := by
          simp only at h
          split at h
          · rename_i c hc; rw [pw_eq hc]; exact h
          · exact h
        simp only [Option.some.injEq, Prod.mk.injEq] at h; obtain ⟨rfl, rfl⟩ := h
        exact ex_of (by simp only [DR, D.toValue]) (by simp [binOp, Op.shift, D.toValue, sh n hC.1, wrap_lim hC.2, nl n])
      | negSucc n => cases h
    case shr =>
      cases b with
      | ofNat n =>
        have h : some (n < k.bits, D.int k (a / 2 ^ n)) = some (C, r) := by
          simp only at h
          split at h
          · rename_i c hc; rw [pw_eq hc]; exact h
          · exact h
        simp only [Option.some.injEq, Prod.mk.injEq] at h; obtain ⟨rfl, rfl⟩ := h
        exact ex_of (by simp only [DR, D.toValue]) (by simp [binOp, Op.shift, D.toValue, sh n hC, fd, nl n])
      | negSucc n => cases h
    case andNot => cases h
    all_goals simp only [Option.some.injEq, Prod.mk.injEq] at h; obtain ⟨rfl, rfl⟩ := h
    case add => obtain ⟨rfl, hl⟩ := hC; exact ex_of (by simp only [DR, D.toValue]) (by simp [binOp, Op.intArith, D.toValue, wrap_lim hl])
    case sub => obtain ⟨rfl, hl⟩ := hC; exact ex_of (by simp only [DR, D.toValue]) (by simp [binOp, Op.intArith, D.toValue, wrap_lim hl])
    case mul => obtain ⟨rfl, hl⟩ := hC; exact ex_of (by simp only [DR, D.toValue]) (by simp [binOp, Op.intArith, D.toValue, wrap_lim hl])
    case quo =>
      obtain ⟨rfl, h0, h1, hl⟩ := hC
      have hq : lim k (a / b) := by
        have l1 : 0 ≤ a / b := Int.ediv_nonneg h0 (by omega)
        have l2 : a / b ≤ a := Int.ediv_le_self b h0
        cases k <;> simp only [lim] at hl ⊢ <;> (try exact hl.elim) <;> omega
      exact ex_of (by simp only [DR, D.toValue]) (by simp [binOp, Op.intDiv, show b ≠ 0 by omega, D.toValue, Int.tdiv_eq_ediv_of_nonneg h0, wrap_lim hq])
    case rem =>
      obtain ⟨rfl, h0, h1⟩ := hC
      exact ex_of (by simp only [DR, D.toValue]) (by simp [binOp, Op.intDiv, show b ≠ 0 by omega, D.toValue, Int.tmod_eq_emod_of_nonneg h0])
    case and =>
      obtain ⟨rfl, h0, h1, la, lb⟩ := hC
      have := run_bits (· &&& ·) h0 h1 la lb (fun n x y h _ => Nat.and_lt_two_pow x (by assumption))
      exact ex_of (by simp only [DR, D.toValue]) (by
        simp only [binOp, ne_eq, not_true_eq_false, if_false, Op.intBits, D.toValue]
        rw [BitVec.toNat_and, toNat_ofInt_nonneg h0 (lim_bits la h0), toNat_ofInt_nonneg h1 (lim_bits lb h1), this]; rfl)
    case or =>
      obtain ⟨rfl, h0, h1, la, lb⟩ := hC
      have := run_bits (· ||| ·) h0 h1 la lb (fun n x y h h' => Nat.or_lt_two_pow h h')
      exact ex_of (by simp only [DR, D.toValue]) (by
        simp only [binOp, ne_eq, not_true_eq_false, if_false, Op.intBits, D.toValue]
        rw [BitVec.toNat_or, toNat_ofInt_nonneg h0 (lim_bits la h0), toNat_ofInt_nonneg h1 (lim_bits lb h1), this]; rfl)
    case xor =>
      obtain ⟨rfl, h0, h1, la, lb⟩ := hC
      have := run_bits (· ^^^ ·) h0 h1 la lb (fun n x y h h' => Nat.xor_lt_two_pow h h')
      exact ex_of (by simp only [DR, D.toValue]) (by
        simp only [binOp, ne_eq, not_true_eq_false, if_false, Op.intBits, D.toValue]
        rw [BitVec.toNat_xor, toNat_ofInt_nonneg h0 (lim_bits la h0), toNat_ofInt_nonneg h1 (lim_bits lb h1), this]; rfl)
    all_goals
      subst hC
      refine ex_of (by simp only [DR, D.toValue]) ?_
      simp only [binOp, ne_eq, not_true_eq_false, if_false]
      rfl
  · unfold binR at h
    split at h
    all_goals try (cases h; done)
    all_goals simp only [Option.some.injEq, Prod.mk.injEq] at h; obtain ⟨rfl, rfl⟩ := h
    · rename_i m hm
      have hb : min b.toNat k.bits = b.toNat := by omega
      exact ex_of (by simp only [DR, D.toValue]) (by simp [binOp, Op.shift, D.toValue, Int.not_lt.2 hC.1, hb, wrap_rest _ hm])
    · have hb : min b.toNat k.bits = b.toNat := by omega
      exact ex_of (by simp only [DR, D.toValue]) (by simp [binOp, Op.shift, D.toValue, Int.not_lt.2 hC.1, hb, fd])
    · rename_i m hm
      subst hC; exact ex_of (by simp only [DR, D.toValue]) (by simp [binOp, Op.intArith, D.toValue, wrap_rest _ hm])
    · rename_i m hm
      subst hC; exact ex_of (by simp only [DR, D.toValue]) (by simp [binOp, Op.intArith, D.toValue, wrap_rest _ hm])
    · rename_i m hm
      subst hC; exact ex_of (by simp only [DR, D.toValue]) (by simp [binOp, Op.intArith, D.toValue, wrap_rest _ hm])
    · obtain ⟨rfl, hC⟩ := hC; exact ex_of (by simp only [DR, D.toValue]) (by simp [binOp, Op.intDiv, hC, D.toValue])
    · obtain ⟨rfl, hC⟩ := hC; exact ex_of (by simp only [DR, D.toValue]) (by simp [binOp, Op.intDiv, hC, D.toValue])

theorem bytes_list (l : List UInt8) : (⟨l.toArray⟩ : ByteArray).toList = l := by rw [ByteArray.toList_eq]
theorem str_eq (a b : List UInt8) : ((⟨a.toArray⟩ : ByteArray).toList == (⟨b.toArray⟩ : ByteArray).toList) = decide (a = b) := by
  rw [bytes_list, bytes_list, Bool.eq_iff_iff]; simp

theorem run_bin {P : Program} {F : Nat → Prop} {w : World} {i : BinOp → IntKind → IntKind → Int → Int → Ev D} (hi : i = binI ∨ i = binR) (op : BinOp) (t : TypeId) (x y : Operand) {p q : D} {a b : Value} {C : Prop} {r : D} {dd : TyD} (ht : TyOk P t dd) (hb : boolFits dd p) (hp : DR F w p a) (hq : DR F w q b) (h : D.bin i op p q = some (C, r)) (hC : C) :
    ∃ v, (do eqGuard op t x y a b; binOp op t a b : Sem Value).run P w = .ok v w ∧ DR F w r v := by
  cases p <;> try (simp only [D.bin] at h; cases h; done)
  case int k m =>
    cases q <;> try (simp only [D.bin] at h; cases h; done)
    case int k' n =>
      simp only [DR] at hp hq
      subst hp hq
      have hg : (eqGuard op t x y (.int k m) (.int k' n)).run P w = .ok () w := by
        unfold eqGuard; split <;> rfl
      simp only [Sem.run_bind, hg, Result.andThen_ok]
      refine run_binInt (k := k) (k' := k') op t ?_ hC
      simp only [D.bin] at h
      rcases hi with rfl | rfl
      · exact .inl h
      · exact .inr h
  case str s =>
    cases q <;> try (simp only [D.bin] at h; cases h; done)
    case str u =>
      simp only [DR] at hp hq
      subst hp hq
      have hg : (eqGuard op t x y (.string ⟨s.toArray⟩) (.string ⟨u.toArray⟩)).run P w = .ok () w := by
        unfold eqGuard; split <;> rfl
      simp only [Sem.run_bind, hg, Result.andThen_ok]
      cases op <;> simp only [D.bin] at h <;> (try (cases h; done)) <;> simp only [Option.some.injEq, Prod.mk.injEq] at h <;> obtain ⟨rfl, rfl⟩ := h
      case add =>
        refine ex_of (by simp only [DR, D.toValue]) ?_
        have hs : ((⟨s.toArray⟩ : ByteArray).size + (⟨u.toArray⟩ : ByteArray).size) = s.length + u.length := by simp [ByteArray.size]
        simp only [binOp, Op.stringOp, hs]
        rw [if_neg (by omega)]
        have : (⟨s.toArray⟩ ++ ⟨u.toArray⟩ : ByteArray) = ⟨(s ++ u).toArray⟩ := by
          apply ByteArray.ext; simp
        rw [this]; rfl
      all_goals refine ex_of (by simp only [DR, D.toValue]) ?_
      · simp only [binOp, Op.stringOp, str_eq]; rfl
      · simp only [binOp, Op.stringOp, str_eq]; rfl
      · simp only [binOp, Op.stringOp, bytes_list]; rfl
  case bool s =>
    cases q <;> try (simp only [D.bin] at h; cases h; done)
    case bool u =>
      simp only [DR] at hp hq
      subst hp hq
      have hg : (eqGuard op t x y (.bool s) (.bool u)).run P w = .ok () w := by
        unfold eqGuard; split <;> rfl
      simp only [Sem.run_bind, hg, Result.andThen_ok]
      have hd : dd.desc = .bool := by
        revert hb; simp only [boolFits]; cases dd.desc <;> simp [TypeDesc.isBool]
      have hu := ht.runU w
      rw [hd] at hu
      cases op <;> simp only [D.bin] at h <;> (try (cases h; done)) <;> simp only [Option.some.injEq, Prod.mk.injEq] at h <;> obtain ⟨rfl, rfl⟩ := h
      all_goals exact ex_of (by simp only [DR, D.toValue]) (by simp only [binOp, Sem.run_bind, run_equal_bool hu, Result.andThen_ok]; rfl)

theorem run_un {P : Program} {F : Nat → Prop} {w : World} (op : UnOp) {p : D} {a : Value} {C : Prop} {r : D} (hp : DR F w p a) (h : D.un op p = some (C, r) ∨ D.unR op p = some (C, r)) (hC : C) : ∃ v, (Op.unary op a).run P w = .ok v w ∧ DR F w r v := by
  rcases h with h | h
  · cases p <;> try (simp only [D.un] at h; cases h; done)
    case int k m =>
      simp only [DR] at hp; subst hp
      cases op <;> simp only [D.un] at h <;> (try (cases h; done)) <;> simp only [Option.some.injEq, Prod.mk.injEq] at h <;> obtain ⟨rfl, rfl⟩ := h
      refine ⟨.int k (k.wrap (0 - m)), rfl, ?_⟩
      rw [Int.zero_sub, wrap_lim hC]; simp only [DR]
    case bool b =>
      simp only [DR] at hp; subst hp
      cases op <;> simp only [D.un] at h <;> (try (cases h; done)) <;> simp only [Option.some.injEq, Prod.mk.injEq] at h <;> obtain ⟨rfl, rfl⟩ := h
      exact ⟨_, by simp [Op.unary]; rfl, by simp only [DR]⟩
  · cases p <;> try (simp only [D.unR] at h; cases h; done)
    case int k m =>
      simp only [DR] at hp; subst hp
      simp only [D.unR] at h
      split at h <;> (try (cases h; done)) <;> simp only [Option.some.injEq, Prod.mk.injEq] at h <;> obtain ⟨rfl, rfl⟩ := h
      · rename_i c hm
        refine ⟨.int k (k.wrap (0 - m)), rfl, ?_⟩
        rw [Int.zero_sub, wrap_rest _ hm]; simp only [DR]
      · refine ⟨.int k (k.wrap (0 - m)), rfl, ?_⟩
        rw [Int.zero_sub]; simp only [DR]
end Go.Vw
