/-
  Trees of data with typed lists, and what it means that a value of the model stands for one in a world. Conditions: none.
-/
import Derived.WalkKit
import Derived.Orders
import Derived.BigFrame
set_option linter.unusedSectionVars false
namespace Go.Vw
open Go.RowKit

/-- A tree of data: no reference to memory that may still be written. 'agg': the cells of a struct, one by one. 'sl': a slice whose elements, of sz cells each, are e of the members of a list (nil included where the list is empty); 'ptr': a pointer to a cell of a row that is written no more. -/
inductive D : Type 1 where
  | undef
  | bool (b : Bool)
  | int (k : IntKind) (n : Int)
  | str (s : List UInt8)
  | agg (cs : List D)
  | tup (cs : List D)
  | sl (sz : Nat) {α : Type} (e : α → List D) (z : α) (l : List α)
  | nils
  | ptr (cs : List D) (o : Nat)
  | fn (f : FuncId) (cs : List D)
  | ifc (t : TypeId) (x : D)
  | raw (v : Value)
  | full (x : D)

instance : Inhabited D := ⟨.undef⟩

mutual
/-- The value stands for the tree; all memory that is read lies in blocks of F. -/
def DR (F : Nat → Prop) (w : World) : D → Value → Prop
  | .undef, _ => True
  | .bool b, v => v = .bool b
  | .int k n, v => v = .int k n
  | .str s, v => v = .string ⟨s.toArray⟩
  | .agg cs, v => ∃ arr : Array Value, v = .agg arr ∧ arr.size = cs.length ∧ DRA F w (fun i => arr[i]?) 0 cs
  | .tup cs, v => ∃ arr : Array Value, v = .tuple arr ∧ arr.size = cs.length ∧ DRT F w (fun i => arr[i]?) 0 cs
  | .sl sz e _ l, v => ((∃ p, v = .slice p 0 0) ∧ l = []) ∨
      ∃ b off cap arr ty fz, v = .slice (some ⟨b, off, none⟩) l.length cap ∧ l.length ≤ cap ∧ F b ∧ w.heap[b]? = some (.cells arr ty fz) ∧
        ∀ i a, l[i]? = some a → (e a).length = sz ∧ DRA F w (fun j => arr[j]?) (off + i * sz) (e a)
  | .nils, v => v = .slice none 0 0
  | .ptr cs o, v => ∃ b off arr ty fz, v = .pointer (some ⟨b, off + o, none⟩) ∧ F b ∧ w.heap[b]? = some (.cells arr ty fz) ∧ DRA F w (fun j => arr[j]?) off cs
  | .fn f cs, v => ∃ arr : Array Value, v = .func (.func f) #[] arr ∧ arr.size = cs.length ∧ DRA F w (fun i => arr[i]?) 0 cs
  | .ifc t x, v => ∃ u, v = .iface t u ∧ DR F w x u
  | .raw u, v => v = u
  | .full x, v => (∃ p n, v = .slice p n n) ∧ DR F w x v
/-- Cells, from a place on. -/
def DRA (F : Nat → Prop) (w : World) (g : Nat → Option Value) (off : Nat) : List D → Prop
  | [] => True
  | c :: cs => (∃ v, g off = some v ∧ v.oneCell' = true ∧ DR F w c v) ∧ DRA F w g (off + 1) cs
/-- The parts of a tuple, or arguments. -/
def DRT (F : Nat → Prop) (w : World) (g : Nat → Option Value) (off : Nat) : List D → Prop
  | [] => True
  | c :: cs => (∃ v, g off = some v ∧ DR F w c v) ∧ DRT F w g (off + 1) cs
end

theorem DRA_iff {F : Nat → Prop} {w : World} {g : Nat → Option Value} : ∀ {cs : List D} {off : Nat}, DRA F w g off cs ↔ ∀ i c, cs[i]? = some c → ∃ v, g (off + i) = some v ∧ v.oneCell' = true ∧ DR F w c v
  | [], off => by simp [DRA]
  | c :: cs, off => by
    simp only [DRA]
    constructor
    · rintro ⟨h1, h2⟩ i d hi
      cases i with
      | zero => simp at hi; subst hi; simpa using h1
      | succ i =>
        simp at hi
        have := DRA_iff.1 h2 i d hi
        rwa [show off + 1 + i = off + (i + 1) by omega] at this
    · intro h
      refine ⟨by simpa using h 0 c (by simp), DRA_iff.2 fun i d hi => ?_⟩
      rw [show off + 1 + i = off + (i + 1) by omega]
      exact h (i + 1) d (by simpa using hi)

theorem DRT_iff {F : Nat → Prop} {w : World} {g : Nat → Option Value} : ∀ {cs : List D} {off : Nat}, DRT F w g off cs ↔ ∀ i c, cs[i]? = some c → ∃ v, g (off + i) = some v ∧ DR F w c v
  | [], off => by simp [DRT]
  | c :: cs, off => by
    simp only [DRT]
    constructor
    · rintro ⟨h1, h2⟩ i d hi
      cases i with
      | zero => simp at hi; subst hi; simpa using h1
      | succ i =>
        simp at hi
        have := DRT_iff.1 h2 i d hi
        rwa [show off + 1 + i = off + (i + 1) by omega] at this
    · intro h
      refine ⟨by simpa using h 0 c (by simp), DRT_iff.2 fun i d hi => ?_⟩
      rw [show off + 1 + i = off + (i + 1) by omega]
      exact h (i + 1) d (by simpa using hi)

/-- What the blocks of F hold stays. -/
def Stays (F : Nat → Prop) (w w' : World) : Prop := ∀ b, F b → w'.heap[b]? = w.heap[b]?

section
variable {F F' : Nat → Prop} {w w' : World} (hF : ∀ b, F b → F' b) (hs : Stays F w w')
include hF hs
mutual
theorem DR.mono : ∀ (x : D) (v : Value), DR F w x v → DR F' w' x v
  | .undef, _, _ => by simp only [DR]
  | .bool _, _, h => by simp only [DR] at h ⊢; exact h
  | .int _ _, _, h => by simp only [DR] at h ⊢; exact h
  | .str _, _, h => by simp only [DR] at h ⊢; exact h
  | .raw _, _, h => by simp only [DR] at h ⊢; exact h
  | .full x, _, h => by simp only [DR] at h ⊢; exact ⟨h.1, DR.mono x _ h.2⟩
  | .nils, _, h => by simp only [DR] at h ⊢; exact h
  | .agg cs, _, h => by simp only [DR] at h ⊢; obtain ⟨a, e, l, h⟩ := h; exact ⟨a, e, l, DRA.mono cs _ _ h⟩
  | .tup cs, _, h => by simp only [DR] at h ⊢; obtain ⟨a, e, l, h⟩ := h; exact ⟨a, e, l, DRT.mono cs _ _ h⟩
  | .fn _ cs, _, h => by simp only [DR] at h ⊢; obtain ⟨a, e, l, h⟩ := h; exact ⟨a, e, l, DRA.mono cs _ _ h⟩
  | .ifc _ x, _, h => by simp only [DR] at h ⊢; obtain ⟨u, e, h⟩ := h; exact ⟨u, e, DR.mono x _ h⟩
  | .ptr cs _, _, h => by simp only [DR] at h ⊢; obtain ⟨b, off, arr, ty, fz, e, hb, hh, h⟩ := h; exact ⟨b, off, arr, ty, fz, e, hF b hb, (hs b hb).trans hh, DRA.mono cs _ _ h⟩
  | .sl sz e _ l, _, h => by
      simp only [DR] at h ⊢
      rcases h with h | ⟨b, off, cap, arr, ty, fz, ev, hc, hb, hh, h⟩
      · exact .inl h
      · exact .inr ⟨b, off, cap, arr, ty, fz, ev, hc, hF b hb, (hs b hb).trans hh, fun i a hi => ⟨(h i a hi).1, DRA.mono (e a) _ _ (h i a hi).2⟩⟩
theorem DRA.mono : ∀ (xs : List D) (g : Nat → Option Value) (off : Nat), DRA F w g off xs → DRA F' w' g off xs
  | [], _, _, _ => by simp only [DRA]
  | x :: xs, g, off, h => by
      simp only [DRA] at h ⊢
      obtain ⟨⟨v, e, h0, h1⟩, h2⟩ := h
      exact ⟨⟨v, e, h0, DR.mono x v h1⟩, DRA.mono xs _ _ h2⟩
theorem DRT.mono : ∀ (xs : List D) (g : Nat → Option Value) (off : Nat), DRT F w g off xs → DRT F' w' g off xs
  | [], _, _, _ => by simp only [DRT]
  | x :: xs, g, off, h => by
      simp only [DRT] at h ⊢
      obtain ⟨⟨v, e, h1⟩, h2⟩ := h
      exact ⟨⟨v, e, DR.mono x v h1⟩, DRT.mono xs _ _ h2⟩
end
end

theorem DRA.congr {F : Nat → Prop} {w : World} {g g' : Nat → Option Value} {off off' : Nat} {cs : List D} (hg : ∀ i, i < cs.length → g' (off' + i) = g (off + i)) (h : DRA F w g off cs) : DRA F w g' off' cs := by
  rw [DRA_iff] at h ⊢
  intro i c hi
  obtain ⟨v, h1, h2⟩ := h i c hi
  exact ⟨v, (hg i (List.getElem?_eq_some_iff.1 hi).1).trans h1, h2⟩

theorem DRA.append {F : Nat → Prop} {w : World} {g : Nat → Option Value} {off : Nat} {xs ys : List D} (h : DRA F w g off xs) (k : DRA F w g (off + xs.length) ys) : DRA F w g off (xs ++ ys) := by
  rw [DRA_iff] at h k ⊢
  intro i c hi
  by_cases h' : i < xs.length
  · rw [List.getElem?_append_left h'] at hi; exact h i c hi
  · rw [List.getElem?_append_right (by omega)] at hi
    have := k _ c hi
    rwa [show off + xs.length + (i - xs.length) = off + i by omega] at this

theorem DRA.drop {F : Nat → Prop} {w : World} {g : Nat → Option Value} {off : Nat} {xs : List D} (h : DRA F w g off xs) (n : Nat) : DRA F w g (off + n) (xs.drop n) := by
  rw [DRA_iff] at h ⊢
  intro i c hi
  rw [List.getElem?_drop] at hi
  have := h _ c hi
  rwa [show off + (n + i) = off + n + i by omega] at this

theorem DRA.take {F : Nat → Prop} {w : World} {g : Nat → Option Value} {off : Nat} {xs : List D} (h : DRA F w g off xs) (n : Nat) : DRA F w g off (xs.take n) := by
  rw [DRA_iff] at h ⊢
  intro i c hi
  rw [List.getElem?_take] at hi
  split at hi
  · exact h i c hi
  · cases hi

/-- Abstract values: data; what refers to blocks that the call owns (by key); structs, tuples and functions with such parts. 'own k o n ty sz': n elements of the list of block k, from element o on. 'ptr': a pointer to a cell of a boxed variable; 'eptr k sz i f': to cell f of element i of a list. -/
inductive V : Type 1 where
  | d (x : D)
  | own (k o n : Nat) (ty : TypeId) (sz : Nat)
  | ptr (k off : Nat)
  | eptr (k sz i f : Nat)
  | agg (cs : List V)
  | tup (cs : List V)
  | fn (f : FuncId) (cs : List V)

instance : Inhabited V := ⟨.d .undef⟩

/-- A block of the call's own: a list of elements, or cells one by one, or a list of elements of which one is a value of the call's own. -/
inductive Blk : Type 1 where
  | data (ty : TypeId) (sz : Nat) {α : Type} (e : α → List D) (z : α) (l : List α)
  | box (ty : TypeId) (cells : List V)
  | hole (ty : TypeId) (sz : Nat) {α : Type} (e : α → List D) (z : α) (l : List α) (i : Nat) (v : V)

/-- Where the blocks lie, by key, and how long their lists are. -/
structure Keys where
  io : Nat → Option Nat
  ln : Nat → Nat

mutual
def VR (io : Keys) (F : Nat → Prop) (w : World) : V → Value → Prop
  | .d x, v => DR F w x v
  | .own k o n ty sz, v => (io.io k = none ∧ v = .slice none 0 0 ∧ n = 0 ∧ o = 0) ∨
      ∃ b cap arr, io.io k = some b ∧ v = .slice (some ⟨b, o * sz, none⟩) n cap ∧ n ≤ cap ∧ o + cap ≤ maxLen ∧ w.heap[b]? = some (.cells arr ty (0, 0)) ∧ arr.size = (o + cap) * sz ∧ o + n ≤ io.ln k
  | .ptr k off, v => ∃ b, io.io k = some b ∧ v = .pointer (some ⟨b, off, none⟩)
  | .eptr k sz i f, v => ∃ b, io.io k = some b ∧ v = .pointer (some ⟨b, i * sz + f, none⟩)
  | .agg cs, v => ∃ arr : Array Value, v = .agg arr ∧ arr.size = cs.length ∧ VRA io F w (fun i => arr[i]?) 0 cs
  | .tup cs, v => ∃ arr : Array Value, v = .tuple arr ∧ arr.size = cs.length ∧ VRT io F w (fun i => arr[i]?) 0 cs
  | .fn f cs, v => ∃ arr : Array Value, v = .func (.func f) #[] arr ∧ arr.size = cs.length ∧ VRA io F w (fun i => arr[i]?) 0 cs
def VRA (io : Keys) (F : Nat → Prop) (w : World) (g : Nat → Option Value) (off : Nat) : List V → Prop
  | [] => True
  | c :: cs => (∃ v, g off = some v ∧ v.oneCell' = true ∧ VR io F w c v) ∧ VRA io F w g (off + 1) cs
def VRT (io : Keys) (F : Nat → Prop) (w : World) (g : Nat → Option Value) (off : Nat) : List V → Prop
  | [] => True
  | c :: cs => (∃ v, g off = some v ∧ VR io F w c v) ∧ VRT io F w g (off + 1) cs
end

theorem VRA_iff {io : Keys} {F : Nat → Prop} {w : World} {g : Nat → Option Value} : ∀ {cs : List V} {off : Nat}, VRA io F w g off cs ↔ ∀ i c, cs[i]? = some c → ∃ v, g (off + i) = some v ∧ v.oneCell' = true ∧ VR io F w c v
  | [], off => by simp [VRA]
  | c :: cs, off => by
    simp only [VRA]
    constructor
    · rintro ⟨h1, h2⟩ i d hi
      cases i with
      | zero => simp at hi; subst hi; simpa using h1
      | succ i =>
        simp at hi
        have := VRA_iff.1 h2 i d hi
        rwa [show off + 1 + i = off + (i + 1) by omega] at this
    · intro h
      refine ⟨by simpa using h 0 c (by simp), VRA_iff.2 fun i d hi => ?_⟩
      rw [show off + 1 + i = off + (i + 1) by omega]
      exact h (i + 1) d (by simpa using hi)

theorem VRT_iff {io : Keys} {F : Nat → Prop} {w : World} {g : Nat → Option Value} : ∀ {cs : List V} {off : Nat}, VRT io F w g off cs ↔ ∀ i c, cs[i]? = some c → ∃ v, g (off + i) = some v ∧ VR io F w c v
  | [], off => by simp [VRT]
  | c :: cs, off => by
    simp only [VRT]
    constructor
    · rintro ⟨h1, h2⟩ i d hi
      cases i with
      | zero => simp at hi; subst hi; simpa using h1
      | succ i =>
        simp at hi
        have := VRT_iff.1 h2 i d hi
        rwa [show off + 1 + i = off + (i + 1) by omega] at this
    · intro h
      refine ⟨by simpa using h 0 c (by simp), VRT_iff.2 fun i d hi => ?_⟩
      rw [show off + 1 + i = off + (i + 1) by omega]
      exact h (i + 1) d (by simpa using hi)

/-- Between two worlds no row changes its shape. -/
def Shapes (w w' : World) : Prop := ∀ (b : Nat) arr ty fz, w.heap[b]? = some (.cells arr ty fz) → ∃ arr', w'.heap[b]? = some (.cells arr' ty fz) ∧ arr'.size = arr.size

theorem Shapes.refl (w : World) : Shapes w w := fun _ arr _ _ h => ⟨arr, h, rfl⟩
theorem Shapes.trans {a b c : World} (h : Shapes a b) (k : Shapes b c) : Shapes a c := fun i arr ty fz e => by
  obtain ⟨x, hx, sx⟩ := h i arr ty fz e
  obtain ⟨y, hy, sy⟩ := k i x ty fz hx
  exact ⟨y, hy, sy.trans sx⟩

section
variable {io io' : Keys} {F F' : Nat → Prop} {w w' : World} (hi : ∀ k, io'.io k = io.io k ∧ io.ln k ≤ io'.ln k) (hF : ∀ b, F b → F' b) (hs : Stays F w w') (hsh : Shapes w w')
include hi hF hs hsh
mutual
theorem VR.mono : ∀ (x : V) (v : Value), VR io F w x v → VR io' F' w' x v
  | .d x, v, h => by simp only [VR] at h ⊢; exact DR.mono hF hs x v h
  | .own k o n ty sz, v, h => by
      simp only [VR] at h ⊢
      rw [(hi k).1]
      rcases h with h | ⟨b, cap, arr, h1, h2, h3, h4, h5, h6⟩
      · exact .inl h
      · obtain ⟨arr', e, s⟩ := hsh b arr ty (0, 0) h5
        exact .inr ⟨b, cap, arr', h1, h2, h3, h4, e, s.trans h6.1, Nat.le_trans h6.2 (hi k).2⟩
  | .ptr k off, v, h => by simp only [VR] at h ⊢; rw [(hi k).1]; exact h
  | .eptr k sz i f, v, h => by simp only [VR] at h ⊢; rw [(hi k).1]; exact h
  | .agg cs, v, h => by simp only [VR] at h ⊢; obtain ⟨a, e, l, h⟩ := h; exact ⟨a, e, l, VRA.mono cs _ _ h⟩
  | .tup cs, v, h => by simp only [VR] at h ⊢; obtain ⟨a, e, l, h⟩ := h; exact ⟨a, e, l, VRT.mono cs _ _ h⟩
  | .fn f cs, v, h => by simp only [VR] at h ⊢; obtain ⟨a, e, l, h⟩ := h; exact ⟨a, e, l, VRA.mono cs _ _ h⟩
theorem VRA.mono : ∀ (xs : List V) (g : Nat → Option Value) (off : Nat), VRA io F w g off xs → VRA io' F' w' g off xs
  | [], _, _, _ => by simp only [VRA]
  | x :: xs, g, off, h => by
      simp only [VRA] at h ⊢
      obtain ⟨⟨v, e, h0, h1⟩, h2⟩ := h
      exact ⟨⟨v, e, h0, VR.mono x v h1⟩, VRA.mono xs _ _ h2⟩
theorem VRT.mono : ∀ (xs : List V) (g : Nat → Option Value) (off : Nat), VRT io F w g off xs → VRT io' F' w' g off xs
  | [], _, _, _ => by simp only [VRT]
  | x :: xs, g, off, h => by
      simp only [VRT] at h ⊢
      obtain ⟨⟨v, e, h1⟩, h2⟩ := h
      exact ⟨⟨v, e, VR.mono x v h1⟩, VRT.mono xs _ _ h2⟩
end
end

theorem VRA.congr {io : Keys} {F : Nat → Prop} {w : World} {g g' : Nat → Option Value} {off off' : Nat} {cs : List V} (hg : ∀ i, i < cs.length → g' (off' + i) = g (off + i)) (h : VRA io F w g off cs) : VRA io F w g' off' cs := by
  rw [VRA_iff] at h ⊢
  intro i c hi
  obtain ⟨v, h1, h2⟩ := h i c hi
  exact ⟨v, (hg i (List.getElem?_eq_some_iff.1 hi).1).trans h1, h2⟩

theorem VRA.drop {io : Keys} {F : Nat → Prop} {w : World} {g : Nat → Option Value} {off : Nat} {xs : List V} (h : VRA io F w g off xs) (n : Nat) : VRA io F w g (off + n) (xs.drop n) := by
  rw [VRA_iff] at h ⊢
  intro i c hi
  rw [List.getElem?_drop] at hi
  have := h _ c hi
  rwa [show off + (n + i) = off + n + i by omega] at this

theorem VRA.take {io : Keys} {F : Nat → Prop} {w : World} {g : Nat → Option Value} {off : Nat} {xs : List V} (h : VRA io F w g off xs) (n : Nat) : VRA io F w g off (xs.take n) := by
  rw [VRA_iff] at h ⊢
  intro i c hi
  rw [List.getElem?_take] at hi
  split at hi
  · exact h i c hi
  · cases hi

theorem DRA.toV {io : Keys} {F : Nat → Prop} {w : World} {g : Nat → Option Value} {off : Nat} {ds : List D} (h : DRA F w g off ds) : VRA io F w g off (ds.map V.d) := by
  rw [DRA_iff] at h
  rw [VRA_iff]
  intro i c hi
  rw [List.getElem?_map, Option.map_eq_some_iff] at hi
  obtain ⟨x, hx, rfl⟩ := hi
  obtain ⟨v, h1, h2, h3⟩ := h i x hx
  exact ⟨v, h1, h2, by simpa only [VR] using h3⟩

/-- All of them data. -/
def allD : List V → Option (List D)
  | [] => some []
  | .d x :: r => match allD r with | some l => some (x :: l) | none => none
  | _ :: _ => none

theorem allD_map : ∀ {xs : List V} {ds : List D}, allD xs = some ds → xs = ds.map V.d
  | [], ds, h => by simp [allD] at h; subst h; rfl
  | x :: xs, ds, h => by
    cases x <;> simp only [allD] at h <;> try (cases h; done)
    split at h
    · rename_i l hl
      simp only [Option.some.injEq] at h; subst h
      rw [allD_map hl]; rfl
    · cases h

theorem VRA.ofD {io : Keys} {F : Nat → Prop} {w : World} {g : Nat → Option Value} {off : Nat} {xs : List V} {ds : List D} (e : allD xs = some ds) (h : VRA io F w g off xs) : DRA F w g off ds := by
  rw [allD_map e, VRA_iff] at h
  rw [DRA_iff]
  intro i c hi
  obtain ⟨v, h1, h2, h3⟩ := h i (.d c) (by rw [List.getElem?_map, hi]; rfl)
  exact ⟨v, h1, h2, by simpa only [VR] using h3⟩
theorem VRT.ofD {io : Keys} {F : Nat → Prop} {w : World} {g : Nat → Option Value} {off : Nat} {xs : List V} {ds : List D} (e : allD xs = some ds) (h : VRT io F w g off xs) : DRT F w g off ds := by
  rw [allD_map e, VRT_iff] at h
  rw [DRT_iff]
  intro i c hi
  obtain ⟨v, h1, h3⟩ := h i (.d c) (by rw [List.getElem?_map, hi]; rfl)
  exact ⟨v, h1, by simpa only [VR] using h3⟩

/-- A struct, a tuple out of its parts. -/
def mkAgg (cs : List V) : V := match allD cs with | some ds => .d (.agg ds) | none => .agg cs
theorem VR.mkAgg {io : Keys} {F : Nat → Prop} {w : World} {cs : List V} {arr : Array Value} (hl : arr.size = cs.length) (h : VRA io F w (fun i => arr[i]?) 0 cs) : VR io F w (mkAgg cs) (.agg arr) := by
  unfold Vw.mkAgg
  split
  · rename_i ds hd
    simp only [VR, DR]
    exact ⟨arr, rfl, by rw [hl, allD_map hd]; simp, VRA.ofD hd h⟩
  · simp only [VR]; exact ⟨arr, rfl, hl, h⟩

/-- The cells of a value. -/
def D.cells : D → List D
  | .agg cs => cs
  | x => [x]
def V.cells : V → List V
  | .d (.agg cs) => cs.map V.d
  | .agg cs => cs
  | x => [x]
/-- A value of one cell, or a struct: what can be stored. -/
def V.storable : V → Bool
  | .d .undef => false
  | .d (.tup _) => false
  | .d (.raw v) => v.oneCell'
  | .tup _ => false
  | _ => true

theorem V.cells_d (y : D) : (V.d y).cells = y.cells.map V.d := by cases y <;> rfl

theorem oneOf {io : Keys} {F : Nat → Prop} {w : World} {x : V} {v : Value} (h1 : v.oneCell' = true) (h : VR io F w x v) : v.cells.size = 1 ∧ VRA io F w (fun i => v.cells[i]?) 0 [x] := by
  have : v.cells = #[v] := by cases v <;> first | rfl | cases h1
  rw [this]
  refine ⟨rfl, ?_⟩
  simp only [VRA]
  exact ⟨⟨v, by simp, h1, h⟩, trivial⟩

theorem VR.cells {io : Keys} {F : Nat → Prop} {w : World} {x : V} {v : Value} (hst : x.storable = true) (h : VR io F w x v) : v.cells.size = x.cells.length ∧ VRA io F w (fun i => v.cells[i]?) 0 x.cells := by
  cases x with
  | d x =>
    cases x with
    | undef => cases hst
    | tup => cases hst
    | raw u => have e : v = u := by simpa only [VR, DR] using h
               subst e; exact oneOf hst h
    | bool b => have e : v = .bool b := by simpa only [VR, DR] using h
                subst e; exact oneOf rfl h
    | int k n => have e : v = .int k n := by simpa only [VR, DR] using h
                 subst e; exact oneOf rfl h
    | str s => have e : v = .string ⟨s.toArray⟩ := by simpa only [VR, DR] using h
               subst e; exact oneOf rfl h
    | agg cs =>
      simp only [VR, DR] at h
      obtain ⟨arr, rfl, hl, h⟩ := h
      exact ⟨by simpa [V.cells, Value.cells] using hl, DRA.toV h⟩
    | sl sz e z l =>
      refine oneOf ?_ h
      simp only [VR, DR] at h
      rcases h with ⟨⟨_, rfl⟩, _⟩ | ⟨_, _, _, _, _, _, rfl, _⟩ <;> rfl
    | nils => have e : v = .slice none 0 0 := by simpa only [VR, DR] using h
              subst e; exact oneOf rfl h
    | ptr cs o => refine oneOf ?_ h; simp only [VR, DR] at h; obtain ⟨_, _, _, _, _, rfl, _⟩ := h; rfl
    | fn f cs => refine oneOf ?_ h; simp only [VR, DR] at h; obtain ⟨_, rfl, _⟩ := h; rfl
    | ifc t x => refine oneOf ?_ h; simp only [VR, DR] at h; obtain ⟨_, rfl, _⟩ := h; rfl
    | full x => refine oneOf ?_ h; simp only [VR, DR] at h; obtain ⟨⟨_, _, rfl⟩, _⟩ := h; rfl
  | own k o n ty sz =>
    refine oneOf ?_ h
    simp only [VR] at h
    rcases h with ⟨_, rfl, _⟩ | ⟨_, _, _, _, rfl, _⟩ <;> rfl
  | ptr k o => refine oneOf ?_ h; simp only [VR] at h; obtain ⟨_, _, rfl⟩ := h; rfl
  | eptr k sz i f => refine oneOf ?_ h; simp only [VR] at h; obtain ⟨_, _, rfl⟩ := h; rfl
  | fn f cs => refine oneOf ?_ h; simp only [VR] at h; obtain ⟨_, rfl, _⟩ := h; rfl
  | tup cs => cases hst
  | agg cs =>
    simp only [VR] at h
    obtain ⟨arr, rfl, hl, h⟩ := h
    exact ⟨by simpa [V.cells, Value.cells] using hl, h⟩

theorem DR.cells {F : Nat → Prop} {w : World} {y : D} {v : Value} (hst : (V.d y).storable = true) (h : DR F w y v) : v.cells.size = y.cells.length ∧ DRA F w (fun i => v.cells[i]?) 0 y.cells := by
  have := VR.cells (io := ⟨fun _ => none, fun _ => 0⟩) (F := F) (w := w) hst (x := V.d y) (v := v) (by simpa only [VR] using h)
  rw [V.cells_d] at this
  refine ⟨by simpa using this.1, VRA.ofD (xs := y.cells.map V.d) ?_ this.2⟩
  induction y.cells with
  | nil => rfl
  | cons x xs ih => simp [allD, ih]
/-- n members of a list, from the o-th on. -/
def cut {α : Type} (o n : Nat) (l : List α) : List α := (l.drop o).take n
theorem cut_eq {α : Type} (o n : Nat) (l : List α) : cut o n l = (l.drop o).take n := rfl
attribute [irreducible] cut
@[simp] theorem cut_all {α : Type} (l : List α) : cut 0 l.length l = l := by rw [cut_eq, List.drop_zero, List.take_length]
@[simp] theorem cut_zero {α : Type} (n : Nat) (l : List α) : cut 0 n l = l.take n := by rw [cut_eq, List.drop_zero]
end Go.Vw
