/-
  The operations that leave memory as it is, on abstract values. Conditions: the table of types is the program's.
-/
import Derived.Test.YtcblkjmnigbiiaaDoorAbsB
set_option autoImplicit false
namespace Go.Ab
open Go.RowKit

/-- Some cells out of a row of data, as a value of a type. -/
def takeD (dd : TyD) (cs : List D) (o : Nat) : Prop × D :=
  if TypeDesc.many dd.desc then (o + dd.size ≤ cs.length, .agg ((cs.drop o).take dd.size)) else (o < cs.length, cs.getD o .undef)
def takeV (dd : TyD) (cs : List V) (o : Nat) : Prop × V :=
  if TypeDesc.many dd.desc then (o + dd.size ≤ cs.length, mkAgg ((cs.drop o).take dd.size)) else (o < cs.length, cs.getD o (.d .undef))

def aggCells : V → Option (List V)
  | .d (.agg cs) => some (cs.map V.d)
  | .agg cs => some cs
  | _ => none

def fillV (place : Nat → Option (Nat × Nat)) (cells : List V) : List (Nat × V) → Option (List V)
  | [] => some cells
  | (i, v) :: rest =>
    match place i with
    | none => none
    | some (off, size) => if v.storable && Nat.beq v.cells.length size && Nat.ble (off + size) cells.length then fillV place (cells.take off ++ (v.cells ++ cells.drop (off + size))) rest else none

def structPlaces (T : TypeId → Option TyD) (fs : Array Field) (i : Nat) : Option (Nat × Nat) :=
  match fs[i]? with
  | some f => match T f.type with | some fd => some (f.offset, fd.size) | none => none
  | none => none

def allTyped (T : TypeId → Option TyD) (fs : Array Field) : Bool := fs.toList.all fun f => (T f.type).isSome

def intOfV : V → Option Int
  | .d (.int _ n) => some n
  | _ => none

/-- A part of a slice. -/
def sliceQ (sz : Nat) (x : V) (lo hi : Option Int) : Ev V :=
  match x with
  | .d (.sl n cs) =>
    match lo, hi with
    | none, none => some (True, .d (.sl n (cs.take (n * sz))))
    | none, some h => some (0 ≤ h ∧ h ≤ n, .d (.sl h.toNat (cs.take (h.toNat * sz))))
    | some l, none => some (0 ≤ l ∧ l ≤ n, .d (.sl (n - l).toNat ((cs.drop (l.toNat * sz)).take ((n - l).toNat * sz))))
    | some l, some h => some (0 ≤ l ∧ l ≤ h ∧ h ≤ n, .d (.sl (h - l).toNat ((cs.drop (l.toNat * sz)).take ((h - l).toNat * sz))))
  | .own k n ty sz' =>
    match lo with
    | none => match hi with | none => some (True, x) | some h => some (0 ≤ h ∧ h ≤ n, .own k h.toNat ty sz')
    | some _ => none
  | _ => none

def evalQ (T : TypeId → Option TyD) (s : St) : Op → Ev V
  | .move x => some (True, s.opd x)
  | .assign x => some (True, s.opd x)
  | .pick c a b => match s.opd c with | .d (.bool t) => some (True, bif t then s.opd a else s.opd b) | _ => none
  | .binOp op xt x y _ => match s.opd x, s.opd y, T xt with
    | .d a, .d b, some dd => match D.bin op a b with | some (C, r) => some (C ∧ boolFits dd a, .d r) | none => none
    | _, _, _ => none
  | .unOp op _ x => match s.opd x with
    | .d a => match D.un op a with | some (C, r) => some (C, .d r) | none => none
    | _ => none
  | .convert src dst x => match T src, T dst, s.opd x with
    | some _, some dd, .d (.int _ n) => match dd.desc with | .int k => some (True, .d (.int k (k.wrap n))) | _ => none
    | _, _, _ => none
  | .field t x f => match T t, aggCells (s.opd x) with
    | some td, some cs => match td.desc with
      | .struct fs => match fs[f]? with
        | some fd => match T fd.type with | some dd => (match takeV dd cs fd.offset with | (C, y) => some (C, y)) | none => none
        | none => none
      | _ => none
    | _, _ => none
  | .fieldAddr t x f => match T t with
    | some td => match td.desc with
      | .struct fs => match fs[f]? with
        | some fd => match T fd.type with
          | some dd => if dd.size = 0 then none else match s.opd x with
            | .ptr k o => some (True, .ptr k (o + fd.offset))
            | .iptr cs o => some (True, .iptr cs (o + fd.offset))
            | _ => none
          | none => none
        | none => none
      | _ => none
    | none => none
  | .indexAddr t x i => match T t, intOfV (s.opd i) with
    | some td, some n => match td.desc with
      | .slice e => match T e with
        | some ed => match s.opd x with
          | .d (.sl len cs) => some (0 ≤ n ∧ n < len, .iptr cs (n.toNat * ed.size))
          | .own k len _ _ => some (0 ≤ n ∧ n < len, .ptr k (n.toNat * ed.size))
          | _ => none
        | none => none
      | _ => none
    | _, _ => none
  | .index t x i => match T t, intOfV (s.opd i), s.opd x with
    | some td, some n, .d (.str b) => match td.desc with
      | .string => some (0 ≤ n ∧ n < b.size, .d (.int .u8 (b.data.getD n.toNat 0).toNat))
      | _ => none
    | _, _, _ => none
  | .load t x => match T t, s.opd x with
    | some td, .ptr k o => match s.blk k with
      | some (.data _ cs) => match takeD td cs o with | (C, y) => some (C, .d y)
      | some (.box _ cs) => match takeV td cs o with | (C, y) => some (C, y)
      | none => none
    | some td, .iptr cs o => match takeD td cs o with | (C, y) => some (C, .d y)
    | _, _ => none
  | .extract x i => match s.opd x with
    | .d (.tup cs) => match cs[i]? with | some c => some (True, .d c) | none => none
    | _ => none
  | .slice t x lo hi mx => match T t, mx with
    | some td, none => match td.desc with
      | .slice e => match T e with
        | some ed => match lo.map (fun y => intOfV (s.opd y)), hi.map (fun y => intOfV (s.opd y)) with
          | none, none => sliceQ ed.size (s.opd x) none none
          | some (some l), none => sliceQ ed.size (s.opd x) (some l) none
          | none, some (some h) => sliceQ ed.size (s.opd x) none (some h)
          | some (some l), some (some h) => sliceQ ed.size (s.opd x) (some l) (some h)
          | _, _ => none
        | none => none
      | .string => match s.opd x, lo.map (fun y => intOfV (s.opd y)), hi.map (fun y => intOfV (s.opd y)) with
        | .d (.str b), none, none => some (True, .d (.str (b.extract 0 b.size)))
        | .d (.str b), some (some l), none => some (0 ≤ l ∧ l ≤ b.size, .d (.str (b.extract l.toNat b.size)))
        | .d (.str b), none, some (some h) => some (0 ≤ h ∧ h ≤ b.size, .d (.str (b.extract 0 h.toNat)))
        | .d (.str b), some (some l), some (some h) => some (0 ≤ l ∧ l ≤ h ∧ h ≤ b.size, .d (.str (b.extract l.toNat h.toNat)))
        | _, _, _ => none
      | _ => none
    | _, _ => none
  | .nilCheck x => match s.opd x with
    | .ptr k o => some (True, .ptr k o)
    | .iptr cs o => some (True, .iptr cs o)
    | _ => none
  | .build t parts => match T t with
    | some td => match td.desc with
      | .struct fs => if allTyped T fs then
          match D.ofV td.zero with
          | .agg z => match fillV (structPlaces T fs) (z.map V.d) (parts.toList.map fun p => (p.1, s.opd p.2)) with
            | some cells => some (True, mkAgg cells)
            | none => none
          | _ => none
        else none
      | _ => none
    | none => none
  | .call c => match c.callee, c.args.toList, c.argTypes[0]? with
    | .builtin .len, [x], some t => match T t, s.opd x with
      | some td, .d (.str b) => match td.desc with | .string => some (True, .d (.int .i64 b.size)) | _ => none
      | some td, .d (.sl n _) => match td.desc with | .slice _ => some (True, .d (.int .i64 n)) | _ => none
      | some td, .d .nils => match td.desc with | .slice _ => some (True, .d (.int .i64 0)) | _ => none
      | some td, .own _ n _ _ => match td.desc with | .slice _ => some (True, .d (.int .i64 n)) | _ => none
      | _, _ => none
    | .builtin .max, [x, y], _ => match s.opd x, s.opd y with
      | .d (.int k a), .d (.int _ b) => some (True, .d (.int k (if b > a then b else a)))
      | _, _ => none
    | .builtin .min, [x, y], _ => match s.opd x, s.opd y with
      | .d (.int k a), .d (.int _ b) => some (True, .d (.int k (if b < a then b else a)))
      | _, _ => none
    | _, _, _ => none
  | _ => none

theorem add_plain (b o j : Nat) : (⟨b, o, none⟩ : Addr).add j = ⟨b, o + j, none⟩ := by
  unfold Addr.add; split <;> simp_all

theorem cell_of_rowAt {w : World} {b off : Nat} {arr : Array Value} {ty : TypeId} {fz : Nat × Nat} {vals : List Value} (hh : w.heap[b]? = some (.cells arr ty fz)) (hr : RowAt arr off vals) {j : Nat} {v : Value} (hj : vals[j]? = some v) : w.cell? ⟨b, off + j, none⟩ = some v := by
  simp [World.cell?, hh, hr j v hj]

/-- Reading a variable out of a row. -/
theorem run_loadRow {P : Program} {w : World} {t : TypeId} {dd : TyD} (ht : TyOk P t dd) {b off o : Nat} {arr : Array Value} {ty : TypeId} {fz : Nat × Nat} {vals : List Value} (hh : w.heap[b]? = some (.cells arr ty fz)) (hr : RowAt arr off vals) :
    (TypeDesc.many dd.desc = true → o + dd.size ≤ vals.length → (loadVar t ⟨b, off + o, none⟩).run P w = .ok (.agg ((vals.drop o).take dd.size).toArray) w) ∧
    (TypeDesc.many dd.desc = false → ∀ v, vals[o]? = some v → (loadVar t ⟨b, off + o, none⟩).run P w = .ok v w) := by
  constructor
  · intro hm hl
    have h1 : ((vals.drop o).take dd.size).length = dd.size := by simp; omega
    have := run_loadCells_list (P := P) w ⟨b, off + o, none⟩ ((vals.drop o).take dd.size) (fun j v hv => by
      rw [add_plain, Nat.add_assoc]
      refine cell_of_rowAt hh hr ?_
      rw [List.getElem?_take] at hv
      split at hv
      · simpa [List.getElem?_drop] using hv
      · cases hv)
    rw [h1] at this
    simp only [loadVar, Sem.run_bind, ht.runA, hm, Result.andThen_ok, if_true, ht.runS, this]
    rfl
  · intro hm v hv
    simp only [loadVar, Sem.run_bind, ht.runA, hm, Result.andThen_ok]
    simp [cell_of_rowAt hh hr hv]

theorem takeD_sound {P : Program} {F : Nat → Prop} {w : World} {t : TypeId} {dd : TyD} (ht : TyOk P t dd) {b off o : Nat} {arr : Array Value} {ty : TypeId} {fz : Nat × Nat} {vals : List Value} {cs : List D} (hh : w.heap[b]? = some (.cells arr ty fz)) (hr : RowAt arr off vals) (hc : DRL F w cs vals) (hC : (takeD dd cs o).1) :
    ∃ v, (loadVar t ⟨b, off + o, none⟩).run P w = .ok v w ∧ DR F w (takeD dd cs o).2 v := by
  have hl := hc.length
  cases hm : TypeDesc.many dd.desc with
  | true =>
    simp only [takeD, hm, if_true] at hC ⊢
    refine ⟨_, (run_loadRow ht hh hr).1 hm (by omega), ?_⟩
    simp only [DR]
    exact ⟨_, rfl, DRL.take _ (DRL.drop _ hc)⟩
  | false =>
    simp only [takeD, hm, Bool.false_eq_true, if_false] at hC ⊢
    have hx : cs[o]? = some (cs.getD o .undef) := by simp [List.getD, hC]
    obtain ⟨v, hv, _, hd⟩ := hc.get hx
    exact ⟨v, (run_loadRow ht hh hr).2 hm v hv, hd⟩

theorem takeV_sound {P : Program} {io : Nat → Option Nat} {F : Nat → Prop} {w : World} {t : TypeId} {dd : TyD} (ht : TyOk P t dd) {b off o : Nat} {arr : Array Value} {ty : TypeId} {fz : Nat × Nat} {vals : List Value} {cs : List V} (hh : w.heap[b]? = some (.cells arr ty fz)) (hr : RowAt arr off vals) (hc : VRL io F w cs vals) (hC : (takeV dd cs o).1) :
    ∃ v, (loadVar t ⟨b, off + o, none⟩).run P w = .ok v w ∧ VR io F w (takeV dd cs o).2 v := by
  have hl := hc.length
  cases hm : TypeDesc.many dd.desc with
  | true =>
    simp only [takeV, hm, if_true] at hC ⊢
    refine ⟨_, (run_loadRow ht hh hr).1 hm (by omega), ?_⟩
    exact VR.mkAgg (VRL.take _ (VRL.drop _ hc))
  | false =>
    simp only [takeV, hm, Bool.false_eq_true, if_false] at hC ⊢
    have hx : cs[o]? = some (cs.getD o (.d .undef)) := by simp [List.getD, hC]
    obtain ⟨v, hv, _, hd⟩ := hc.get hx
    exact ⟨v, (run_loadRow ht hh hr).2 hm v hv, hd⟩

theorem aggCells_sound {io : Nat → Option Nat} {F : Nat → Prop} {w : World} {x : V} {cs : List V} {v : Value} (h : aggCells x = some cs) (hx : VR io F w x v) : ∃ arr, v = .agg arr ∧ VRL io F w cs arr.toList := by
  unfold aggCells at h
  split at h
  · simp at h; subst h
    simp only [VR, DR] at hx
    obtain ⟨arr, rfl, hl⟩ := hx
    exact ⟨arr, rfl, DRL.toV hl⟩
  · simp at h; subst h
    simpa only [VR] using hx
  · cases h

theorem part_sound {P : Program} {io : Nat → Option Nat} {F : Nat → Prop} {w : World} {t : TypeId} {dd : TyD} (ht : TyOk P t dd) {o : Nat} {arr : Array Value} {cs : List V} (hc : VRL io F w cs arr.toList) (hC : (takeV dd cs o).1) :
    ∃ v, (part t arr o).run P w = .ok v w ∧ VR io F w (takeV dd cs o).2 v := by
  have hl := hc.length
  cases hm : TypeDesc.many dd.desc with
  | true =>
    simp only [takeV, hm, if_true] at hC ⊢
    refine ⟨.agg (arr.extract o (o + dd.size)), ?_, ?_⟩
    · simp only [part, Sem.run_bind, ht.runA, hm, Result.andThen_ok, if_true, ht.runS]; rfl
    · refine VR.mkAgg ?_
      have := VRL.take dd.size (VRL.drop o hc)
      simpa [List.extract_eq_take_drop] using this
  | false =>
    simp only [takeV, hm, Bool.false_eq_true, if_false] at hC ⊢
    have hx : cs[o]? = some (cs.getD o (.d .undef)) := by simp [List.getD, hC]
    obtain ⟨v, hv, _, hd⟩ := hc.get hx
    refine ⟨v, ?_, hd⟩
    have hv' : arr[o]? = some v := by simpa using hv
    simp only [part, Sem.run_bind, ht.runA, hm, Result.andThen_ok]
    simp [hv']

theorem intOfV_sound {io : Nat → Option Nat} {F : Nat → Prop} {w : World} {x : V} {n : Int} {v : Value} (h : intOfV x = some n) (hx : VR io F w x v) : ∃ k, v = .int k n := by
  unfold intOfV at h
  split at h
  · simp at h; subst h; simp only [VR, DR] at hx; exact ⟨_, hx⟩
  · cases h
end Go.Ab
