/-
  The operations that leave memory as it is, on abstract values. Conditions: the table of types is the program's.
-/
import Derived.Test.YtcblkjmnigbiiaaDoorVB
set_option linter.unusedSimpArgs false
namespace Go.Vw
open Go.RowKit

/-- n cells from place o on, with the list's head in the open. -/
def segD : List D → Nat → Nat → Option (List D)
  | _, 0, 0 => some []
  | c :: cs, 0, n + 1 => match segD cs 0 n with | some r => some (c :: r) | none => none
  | _ :: cs, o + 1, n => segD cs o n
  | [], _, _ => none
def segV : List V → Nat → Nat → Option (List V)
  | _, 0, 0 => some []
  | c :: cs, 0, n + 1 => match segV cs 0 n with | some r => some (c :: r) | none => none
  | _ :: cs, o + 1, n => segV cs o n
  | [], _, _ => none

theorem segD_spec : ∀ {cs : List D} {o n : Nat} {r : List D}, segD cs o n = some r → r.length = n ∧ ∀ i, i < n → cs[o + i]? = r[i]?
  | cs, 0, 0, r, h => by simp [segD] at h; subst h; simp
  | c :: cs, 0, n + 1, r, h => by
    simp only [segD] at h
    split at h
    · rename_i r' h'
      simp only [Option.some.injEq] at h; subst h
      obtain ⟨h1, h2⟩ := segD_spec h'
      refine ⟨by simp [h1], fun i hi => ?_⟩
      cases i with
      | zero => simp
      | succ i => have := h2 i (by omega); simp only [Nat.zero_add, List.getElem?_cons_succ] at this ⊢; exact this
    · cases h
  | c :: cs, o + 1, n, r, h => by
    simp only [segD] at h
    obtain ⟨h1, h2⟩ := segD_spec h
    refine ⟨h1, fun i hi => ?_⟩
    rw [show o + 1 + i = (o + i) + 1 by omega, List.getElem?_cons_succ]
    exact h2 i hi
  | [], 0, n + 1, r, h => by simp [segD] at h
  | [], o + 1, n, r, h => by simp [segD] at h
theorem segV_spec : ∀ {cs : List V} {o n : Nat} {r : List V}, segV cs o n = some r → r.length = n ∧ ∀ i, i < n → cs[o + i]? = r[i]?
  | cs, 0, 0, r, h => by simp [segV] at h; subst h; simp
  | c :: cs, 0, n + 1, r, h => by
    simp only [segV] at h
    split at h
    · rename_i r' h'
      simp only [Option.some.injEq] at h; subst h
      obtain ⟨h1, h2⟩ := segV_spec h'
      refine ⟨by simp [h1], fun i hi => ?_⟩
      cases i with
      | zero => simp
      | succ i => have := h2 i (by omega); simp only [Nat.zero_add, List.getElem?_cons_succ] at this ⊢; exact this
    · cases h
  | c :: cs, o + 1, n, r, h => by
    simp only [segV] at h
    obtain ⟨h1, h2⟩ := segV_spec h
    refine ⟨h1, fun i hi => ?_⟩
    rw [show o + 1 + i = (o + i) + 1 by omega, List.getElem?_cons_succ]
    exact h2 i hi
  | [], 0, n + 1, r, h => by simp [segV] at h
  | [], o + 1, n, r, h => by simp [segV] at h

def headD : List D → Nat → Option D
  | c :: _, 0 => some c
  | _ :: cs, o + 1 => headD cs o
  | [], _ => none
def headV : List V → Nat → Option V
  | c :: _, 0 => some c
  | _ :: cs, o + 1 => headV cs o
  | [], _ => none
theorem headD_spec : ∀ {cs : List D} {o : Nat}, headD cs o = cs[o]?
  | [], o => by simp [headD]
  | c :: cs, 0 => by simp [headD]
  | c :: cs, o + 1 => by simp [headD, headD_spec]
theorem headV_spec : ∀ {cs : List V} {o : Nat}, headV cs o = cs[o]?
  | [], o => by simp [headV]
  | c :: cs, 0 => by simp [headV]
  | c :: cs, o + 1 => by simp [headV, headV_spec]

/-- Some cells out of a row, as a value of a type. -/
def takeD (dd : TyD) (cs : List D) (o : Nat) : Option D :=
  match TypeDesc.many dd.desc with
  | true => match Nat.beq o 0 && Nat.beq dd.size cs.length with
    | true => some (.agg cs)
    | false => match segD cs o dd.size with | some r => some (.agg r) | none => none
  | false => headD cs o
def takeV (dd : TyD) (cs : List V) (o : Nat) : Option V :=
  match TypeDesc.many dd.desc with
  | true => match segV cs o dd.size with | some r => some (mkAgg r) | none => none
  | false => headV cs o

/-- An index: as a natural number where that is seen (m), else by the absolute value. -/
def natOf (m : Bool) (n : Int) : Ev (ULift Nat) :=
  match m with
  | true => match n with | .ofNat j => some (True, ⟨j⟩) | .negSucc _ => none
  | false => some (0 ≤ n, ⟨n.toNat⟩)
theorem natOf_spec {m : Bool} {n : Int} {C : Prop} {j : ULift Nat} (h : natOf m n = some (C, j)) (hC : C) : 0 ≤ n ∧ n.toNat = j.down := by
  cases m with
  | true => cases n <;> simp only [natOf] at h <;> cases h; exact ⟨Int.natCast_nonneg _, rfl⟩
  | false => simp only [natOf, Option.some.injEq, Prod.mk.injEq] at h; obtain ⟨rfl, rfl⟩ := h; exact ⟨hC, rfl⟩

def plus0 : Nat → Nat → Nat
  | 0, j => j
  | o + 1, j => o + 1 + j
theorem plus0_eq (o j : Nat) : plus0 o j = o + j := by cases o <;> simp [plus0]

def intOfV : V → Option Int
  | .d (.int _ n) => some n
  | _ => none

def fillD (place : Nat → Option (Nat × Nat)) : List V → List (Nat × V) → Option (List V)
  | cells, [] => some cells
  | cells, (i, v) :: rest =>
    match place i with
    | none => none
    | some (off, size) => match v.storable && Nat.beq v.cells.length size && Nat.ble (off + size) cells.length with
      | true => fillD place (cells.take off ++ (v.cells ++ cells.drop (off + size))) rest
      | false => none

def structPlaces (T : TypeId → Option TyD) (fs : Array Field) (i : Nat) : Option (Nat × Nat) :=
  match fs[i]? with
  | some f => match T f.type with | some fd => some (f.offset, fd.size) | none => none
  | none => none

def allTyped (T : TypeId → Option TyD) (fs : Array Field) : Bool := fs.toList.all fun f => (T f.type).isSome

/-- The same list, its members in the open. -/
def openL : List V → (List V → Ev V) → Ev V
  | [], K => K []
  | c :: r, K => openL r fun r' => K (c :: r')
theorem openL_eq : ∀ (l : List V) (K : List V → Ev V), openL l K = K l
  | [], K => rfl
  | c :: r, K => by simp only [openL]; rw [openL_eq r]

/-- A part of a slice. -/
def sliceQ (m : Bool) (sz : Nat) (x : V) (lo hi mx : Option Int) : Ev V :=
  match x with
  | .d (.sl sz' e z l) => match Nat.beq sz sz' with
    | false => none
    | true => match lo, hi, mx with
      | none, none, none => some (True, .d (.sl sz' e z l))
      | none, some h, none => match natOf m h with
        | some (C, ⟨h⟩) => some (C ∧ h ≤ l.length, .d (.sl sz' e z (l.take h)))
        | none => none
      | none, some h, some g => match natOf m h with
        | some (C, ⟨h'⟩) => some (C ∧ h ≤ g ∧ g ≤ l.length, .d (.sl sz' e z (l.take h')))
        | none => none
      | some n, none, none => match natOf m n with
        | some (C, ⟨n⟩) => some (C ∧ n ≤ l.length, .d (.sl sz' e z (l.drop n)))
        | none => none
      | some n, some h, none => match natOf m n, natOf m h with
        | some (C, ⟨n⟩), some (C', ⟨h⟩) => some (C ∧ C' ∧ n ≤ h ∧ h ≤ l.length, .d (.sl sz' e z ((l.drop n).take (h - n))))
        | _, _ => none
      | _, _, _ => none
  | .own k o n ty sz' => match Nat.beq sz sz' with
    | false => none
    | true => match lo, hi, mx with
      | none, none, none => some (True, .own k o n ty sz')
      | none, some h, none => match natOf m h with
        | some (C, ⟨h⟩) => some (C ∧ h ≤ n, .own k o h ty sz')
        | none => none
      | some a, none, none => match natOf m a with
        | some (C, ⟨a⟩) => some (C ∧ a < n, .own k (plus0 o a) (n - a) ty sz')
        | none => none
      | some a, some h, none => match natOf m a, natOf m h with
        | some (C, ⟨a⟩), some (C', ⟨h⟩) => some (C ∧ C' ∧ a < h ∧ h ≤ n, .own k (plus0 o a) (h - a) ty sz')
        | _, _ => none
      | _, _, _ => none
  | .d .nils => match lo, hi, mx with
      | none, none, none => some (True, .d .nils)
      | none, some h, none => some (h = 0, .d .nils)
      | _, _, _ => none
  | _ => none

def strQ (m : Bool) (b : List UInt8) (lo hi : Option Int) : Ev V :=
  match lo, hi with
  | none, none => some (True, .d (.str b))
  | some n, none => match natOf m n with | some (C, ⟨n⟩) => some (C ∧ n ≤ b.length, .d (.str (b.drop n))) | none => none
  | none, some h => match natOf m h with | some (C, ⟨h⟩) => some (C ∧ h ≤ b.length, .d (.str (b.take h))) | none => none
  | some n, some h => match natOf m n, natOf m h with
    | some (C, ⟨n⟩), some (C', ⟨h⟩) => some (C ∧ C' ∧ n ≤ h ∧ h ≤ b.length, .d (.str ((b.drop n).take (h - n))))
    | _, _ => none

/-- An operand of a slice expression, if it is there. -/
def optI (s : St) : Option Operand → Option (Option Int)
  | none => some none
  | some y => match intOfV (s.opd y) with | some n => some (some n) | none => none

/-- Two structs of plain values: are they the same? -/
def sameD : List D → List D → Option Bool
  | [], [] => some true
  | .int k a :: r, .int k' b :: r' => match decide (k = k'), sameD r r' with | true, some t => some (decide (a = b) && t) | _, _ => none
  | .str a :: r, .str b :: r' => match sameD r r' with | some t => some (decide (a = b) && t) | none => none
  | _, _ => none

/-- A value of one cell. -/
def V.one : V → Bool
  | .d (.agg _) => false
  | .agg _ => false
  | x => x.storable

def evalQ (T : TypeId → Option TyD) (m : Bool) (s : St) : Op → Ev V
  | .move x => some (True, s.opd x)
  | .assign x => some (True, s.opd x)
  | .pick c a b => match s.opd c with
    | .d (.bool t) => match m with
      | true => some (True, bif t then s.opd a else s.opd b)
      | false => match s.opd a, s.opd b with | .d (.bool u), .d (.bool v) => some (True, .d (.bool (bif t then u else v))) | _, _ => none
    | _ => none
  | .binOp op xt x y _ => match s.opd x, s.opd y, T xt with
    | .d a, .d b, some dd => match D.bin (bif m then binI else binR) op a b with | some (C, r) => some (C ∧ boolFits dd a, .d r) | none => none
    | _, _, _ => none
  | .unOp op _ x => match s.opd x with
    | .d a => match (bif m then D.un op a else D.unR op a) with | some (C, r) => some (C, .d r) | none => none
    | _ => none
  | .convert src dst x => match T src, T dst, s.opd x with
    | some _, some dd, .d (.int _ n) => match dd.desc with
      | .int k => match m, rest? k with
        | true, _ => some (lim k n, .d (.int k n))
        | false, some c => some (True, .d (.int k (n % c)))
        | false, none => some (True, .d (.int k (k.wrap n)))
      | _ => none
    | some _, some dd, .d (.str b) => match dd.desc with | .string => some (True, .d (.str b)) | _ => none
    | _, _, _ => none
  | .field t x f => match T t with
    | some td => match td.desc with
      | .struct fs => match fs[f]? with
        | some fd => match T fd.type with
          | some dd => match s.opd x with
            | .d (.agg cs) => match takeD dd cs fd.offset with | some y => some (True, .d y) | none => none
            | .agg cs => match takeV dd cs fd.offset with | some y => some (True, y) | none => none
            | _ => none
          | none => none
        | none => none
      | _ => none
    | none => none
  | .fieldAddr t x f => match T t with
    | some td => match td.desc with
      | .struct fs => match fs[f]? with
        | some fd => match T fd.type with
          | some dd => match Nat.beq dd.size 0 with
            | true => none
            | false => match s.opd x with
              | .ptr k o => some (True, .ptr k (plus0 o fd.offset))
              | .eptr k sz i o => some (True, .eptr k sz i (plus0 o fd.offset))
              | .d (.ptr cs o) => some (True, .d (.ptr cs (plus0 o fd.offset)))
              | _ => none
          | none => none
        | none => none
      | _ => none
    | none => none
  | .indexAddr t x i => match T t, intOfV (s.opd i) with
    | some td, some n => match td.desc with
      | .slice e => match T e, natOf m n with
        | some ed, some (C, ⟨j⟩) => match s.opd x with
          | .d (.sl sz e z l) => match Nat.beq sz ed.size with
            | true => some (C ∧ j < l.length, .d (.ptr (e (l.getD j z)) 0))
            | false => none
          | .own k o len _ sz => match Nat.beq sz ed.size with
            | true => match o with
              | 0 => some (C ∧ j < len, .eptr k sz j 0)
              | o' + 1 => some (C ∧ j < len, .eptr k sz (plus0 (o' + 1) j) 0)
            | false => none
          | _ => none
        | _, _ => none
      | _ => none
    | _, _ => none
  | .index t x i => match T t, intOfV (s.opd i) with
    | some td, some n => match natOf m n with
      | some (C, ⟨j⟩) => match td.desc, s.opd x with
        | .string, .d (.str b) => some (C ∧ j < b.length, .d (.int .u8 (b.getD j 0).toNat))
        | .array len e, .d (.agg cs) => match T e with
          | some ed => match takeD ed cs (j * ed.size) with | some y => some (C ∧ j < len, .d y) | none => none
          | none => none
        | _, _ => none
      | none => none
    | _, _ => none
  | .load t x => match T t, s.opd x with
    | some td, .ptr k o => match s.blk k with
      | some (.box _ cs) => match takeV td cs o with | some y => some (True, y) | none => none
      | _ => none
    | some td, .eptr k sz i o => match s.blk k with
      | some (.data _ sz' e z l) => match Nat.beq sz sz' with
        | true => match takeD td (e (l.getD i z)) o with | some y => some (i < l.length, .d y) | none => none
        | false => none
      | some (.hole _ sz' e z l i' v) => match Nat.beq sz sz' with
        | true => match m with
          | true => match o, TypeDesc.many td.desc with
            | 0, false => some (i = i', v)
            | _, _ => none
          | false => match takeD td (e (l.getD i z)) o with | some y => some (i < l.length ∧ i ≠ i', .d y) | none => none
        | false => none
      | _ => none
    | some td, .d (.ptr cs o) => match takeD td cs o with | some y => some (True, .d y) | none => none
    | _, _ => none
  | .extract x i => match s.opd x with
    | .d (.tup cs) => match headD cs i with | some c => some (True, .d c) | none => none
    | .tup cs => match headV cs i with | some c => some (True, c) | none => none
    | _ => none
  | .slice t x lo hi mx => match T t with
    | some td => match td.desc with
      | .slice e => match T e with
        | some ed => match optI s lo, optI s hi, optI s mx with
          | some l, some h, some g => sliceQ m ed.size (s.opd x) l h g
          | _, _, _ => none
        | none => none
      | .string => match s.opd x, optI s lo, optI s hi, mx with
        | .d (.str b), some l, some h, none => strQ m b l h
        | _, _, _, _ => none
      | _ => none
    | none => none
  | .nilCheck x => match s.opd x with
    | .ptr k o => some (True, .ptr k o)
    | .eptr k sz i o => some (True, .eptr k sz i o)
    | .d (.ptr cs o) => some (True, .d (.ptr cs o))
    | _ => none
  | .build t parts => match T t with
    | some td => match td.desc with
      | .struct fs => match allTyped T fs, D.ofV td.zero with
        | true, .agg z => match fillD (structPlaces T fs) (z.map V.d) (parts.toList.map fun p => (p.1, s.opd p.2)) with
          | some cells => openL cells fun l => some (True, mkAgg l)
          | none => none
        | _, _ => none
      | _ => none
    | none => none
  | .makeFunc (.func f) first captured => match first.toList with
    | [] => match allD (captured.toList.map s.opd) with
      | some ds => match ds.all fun d => (V.d d).one with
        | true => some (True, .d (.fn f ds))
        | false => none
      | none => match (captured.toList.map s.opd).all V.one with
        | true => openL (captured.toList.map s.opd) fun l => some (True, .fn f l)
        | false => none
    | _ => none
  | .call c => match c.callee, c.args.toList, c.argTypes[0]? with
    | .builtin .len, [x], some t => match T t, s.opd x with
      | some td, .d (.str b) => match td.desc with | .string => some (True, .d (.int .i64 b.length)) | _ => none
      | some td, .d (.sl _ _ _ l) => match td.desc with | .slice _ => some (True, .d (.int .i64 l.length)) | _ => none
      | some td, .d .nils => match td.desc with | .slice _ => some (True, .d (.int .i64 0)) | _ => none
      | some td, .own _ _ n _ _ => match td.desc with | .slice _ => some (True, .d (.int .i64 n)) | _ => none
      | _, _ => none
    | .builtin .max, [x, y], _ => match s.opd x, s.opd y with
      | .d (.int k a), .d (.int _ b) => some (True, .d (.int k (max a b)))
      | _, _ => none
    | .builtin .min, [x, y], _ => match s.opd x, s.opd y with
      | .d (.int k a), .d (.int _ b) => some (True, .d (.int k (min a b)))
      | _, _ => none
    | _, _, _ => none
  | _ => none
end Go.Vw
