/-
  Data trees and abstract values, and what it means that a value of the model stands for one in a world. Conditions: none.
-/
import Derived.WalkKit
import Derived.Orders
import Derived.BigFrame
set_option autoImplicit false
namespace Go.Ab
open Go.RowKit

/-- A tree of data: no reference to memory that may still be written. 'agg': the cells of a struct. 'sl n cs': a slice of n elements whose cells are cs (nil included); 'nils': the nil slice. -/
inductive D where
  | undef
  | bool (b : Bool)
  | int (k : IntKind) (n : Int)
  | str (s : ByteArray)
  | agg (cs : List D)
  | tup (cs : List D)
  | sl (n : Nat) (cs : List D)
  | nils
  | raw (v : Value)
  deriving Inhabited

/-- The cells vals stand in the row at off. -/
def RowAt (arr : Array Value) (off : Nat) (vals : List Value) : Prop := ∀ j v, vals[j]? = some v → arr[off + j]? = some v

mutual
/-- The value stands for the tree; all memory that is read lies in blocks of F. -/
def DR (F : Nat → Prop) (w : World) : D → Value → Prop
  | .undef, _ => True
  | .bool b, v => v = .bool b
  | .int k n, v => v = .int k n
  | .str s, v => v = .string s
  | .agg cs, v => ∃ arr, v = .agg arr ∧ DRL F w cs arr.toList
  | .tup cs, v => ∃ arr, v = .tuple arr ∧ DRT F w cs arr.toList
  | .sl n cs, v => (v = .slice none 0 0 ∧ n = 0 ∧ cs = []) ∨
      ∃ b off cap arr ty fz vals, v = .slice (some ⟨b, off, none⟩) n cap ∧ n ≤ cap ∧ F b ∧ w.heap[b]? = some (.cells arr ty fz) ∧ RowAt arr off vals ∧ DRL F w cs vals
  | .nils, v => v = .slice none 0 0
  | .raw u, v => v = u
/-- Cells: each of them a value of one cell. -/
def DRL (F : Nat → Prop) (w : World) : List D → List Value → Prop
  | [], vs => vs = []
  | c :: cs, vs => ∃ v rest, vs = v :: rest ∧ v.oneCell' = true ∧ DR F w c v ∧ DRL F w cs rest
/-- The parts of a tuple, or arguments. -/
def DRT (F : Nat → Prop) (w : World) : List D → List Value → Prop
  | [], vs => vs = []
  | c :: cs, vs => ∃ v rest, vs = v :: rest ∧ DR F w c v ∧ DRT F w cs rest
end

/-- Abstract values: data; what refers to blocks that the call owns (by key); a pointer into data; a struct with such parts; a function with what it has captured. -/
inductive V where
  | d (x : D)
  | own (k n : Nat) (ty : TypeId) (sz : Nat)
  | ptr (k off : Nat)
  | iptr (cs : List D) (o : Nat)
  | agg (cs : List V)
  | fn (f : FuncId) (cs : List V)
  deriving Inhabited

mutual
def VR (io : Nat → Option Nat) (F : Nat → Prop) (w : World) : V → Value → Prop
  | .d x, v => DR F w x v
  | .own k n ty sz, v => (io k = none ∧ v = .slice none 0 0 ∧ n = 0) ∨
      ∃ b cap arr, io k = some b ∧ v = .slice (some ⟨b, 0, none⟩) n cap ∧ n ≤ cap ∧ cap ≤ maxLen ∧ w.heap[b]? = some (.cells arr ty (0, 0)) ∧ arr.size = cap * sz
  | .ptr k off, v => ∃ b, io k = some b ∧ v = .pointer (some ⟨b, off, none⟩)
  | .iptr cs o, v => ∃ b off arr ty fz vals, v = .pointer (some ⟨b, off + o, none⟩) ∧ F b ∧ w.heap[b]? = some (.cells arr ty fz) ∧ RowAt arr off vals ∧ DRL F w cs vals
  | .agg cs, v => ∃ arr, v = .agg arr ∧ VRL io F w cs arr.toList
  | .fn f cs, v => ∃ arr, v = .func (.func f) #[] arr ∧ VRL io F w cs arr.toList
def VRL (io : Nat → Option Nat) (F : Nat → Prop) (w : World) : List V → List Value → Prop
  | [], vs => vs = []
  | c :: cs, vs => ∃ v rest, vs = v :: rest ∧ v.oneCell' = true ∧ VR io F w c v ∧ VRL io F w cs rest
end

/-- What the blocks of F hold stays. -/
def Stays (F : Nat → Prop) (w w' : World) : Prop := ∀ b, F b → w'.heap[b]? = w.heap[b]?

mutual
theorem DR.mono {F F' : Nat → Prop} {w w' : World} (hF : ∀ b, F b → F' b) (hs : Stays F w w') : ∀ (x : D) (v : Value), DR F w x v → DR F' w' x v
  | .undef, _, _ => by simp only [DR]
  | .bool _, _, h => by simp only [DR] at h ⊢; exact h
  | .int _ _, _, h => by simp only [DR] at h ⊢; exact h
  | .str _, _, h => by simp only [DR] at h ⊢; exact h
  | .raw _, _, h => by simp only [DR] at h ⊢; exact h
  | .agg cs, _, h => by simp only [DR] at h ⊢; obtain ⟨a, e, h⟩ := h; exact ⟨a, e, DRL.mono hF hs cs _ h⟩
  | .tup cs, _, h => by simp only [DR] at h ⊢; obtain ⟨a, e, h⟩ := h; exact ⟨a, e, DRT.mono hF hs cs _ h⟩
  | .sl n cs, _, h => by
      simp only [DR] at h ⊢
      rcases h with h | ⟨b, off, cap, arr, ty, fz, vals, e, hc, hb, hh, hr, h⟩
      · exact .inl h
      · exact .inr ⟨b, off, cap, arr, ty, fz, vals, e, hc, hF b hb, (hs b hb).trans hh, hr, DRL.mono hF hs cs _ h⟩
  | .nils, _, h => by simp only [DR] at h ⊢; exact h
theorem DRL.mono {F F' : Nat → Prop} {w w' : World} (hF : ∀ b, F b → F' b) (hs : Stays F w w') : ∀ (xs : List D) (vs : List Value), DRL F w xs vs → DRL F' w' xs vs
  | [], _, h => by simp only [DRL] at h ⊢; exact h
  | x :: xs, _, h => by
      simp only [DRL] at h ⊢
      obtain ⟨v, rest, e, h0, h1, h2⟩ := h
      exact ⟨v, rest, e, h0, DR.mono hF hs x v h1, DRL.mono hF hs xs rest h2⟩
theorem DRT.mono {F F' : Nat → Prop} {w w' : World} (hF : ∀ b, F b → F' b) (hs : Stays F w w') : ∀ (xs : List D) (vs : List Value), DRT F w xs vs → DRT F' w' xs vs
  | [], _, h => by simp only [DRT] at h ⊢; exact h
  | x :: xs, _, h => by
      simp only [DRT] at h ⊢
      obtain ⟨v, rest, e, h1, h2⟩ := h
      exact ⟨v, rest, e, DR.mono hF hs x v h1, DRT.mono hF hs xs rest h2⟩
end

theorem DRL.length {F : Nat → Prop} {w : World} : ∀ {xs : List D} {vs : List Value}, DRL F w xs vs → vs.length = xs.length
  | [], _, h => by simp only [DRL] at h; simp [h]
  | x :: xs, _, h => by
      simp only [DRL] at h
      obtain ⟨v, rest, rfl, _, _, h2⟩ := h
      simp [DRL.length h2]

theorem DRL.get {F : Nat → Prop} {w : World} : ∀ {xs : List D} {vs : List Value}, DRL F w xs vs → ∀ {i : Nat} {x : D}, xs[i]? = some x → ∃ v, vs[i]? = some v ∧ v.oneCell' = true ∧ DR F w x v
  | [], _, _, i, x, hi => by simp at hi
  | y :: ys, _, h, i, x, hi => by
      simp only [DRL] at h
      obtain ⟨v, rest, rfl, h0, h1, h2⟩ := h
      cases i with
      | zero => simp at hi; subst hi; exact ⟨v, by simp, h0, h1⟩
      | succ i => simp at hi; obtain ⟨u, hu, hr⟩ := DRL.get h2 hi; exact ⟨u, by simpa using hu, hr⟩

theorem DRL.append {F : Nat → Prop} {w : World} : ∀ {xs : List D} {vs : List Value} {ys : List D} {us : List Value}, DRL F w xs vs → DRL F w ys us → DRL F w (xs ++ ys) (vs ++ us)
  | [], _, _, _, h, k => by simp only [DRL] at h; subst h; simpa using k
  | x :: xs, _, _, _, h, k => by
      simp only [DRL] at h
      obtain ⟨v, rest, rfl, h0, h1, h2⟩ := h
      exact ⟨v, _, rfl, h0, h1, DRL.append h2 k⟩

theorem DRL.drop {F : Nat → Prop} {w : World} : ∀ {xs : List D} {vs : List Value} (n : Nat), DRL F w xs vs → DRL F w (xs.drop n) (vs.drop n)
  | xs, vs, 0, h => by simpa using h
  | [], _, n + 1, h => by simp only [DRL] at h; subst h; simp [DRL]
  | x :: xs, _, n + 1, h => by
      simp only [DRL] at h
      obtain ⟨v, rest, rfl, h0, h1, h2⟩ := h
      simpa using DRL.drop n h2

theorem DRL.take {F : Nat → Prop} {w : World} : ∀ {xs : List D} {vs : List Value} (n : Nat), DRL F w xs vs → DRL F w (xs.take n) (vs.take n)
  | xs, vs, 0, h => by simp [DRL]
  | [], _, n + 1, h => by simp only [DRL] at h; subst h; simp [DRL]
  | x :: xs, _, n + 1, h => by
      simp only [DRL] at h
      obtain ⟨v, rest, rfl, h0, h1, h2⟩ := h
      simp only [List.take_succ_cons, DRL]
      exact ⟨v, _, rfl, h0, h1, DRL.take n h2⟩

theorem DRL.set {F : Nat → Prop} {w : World} {x : D} {v : Value} (h1c : v.oneCell' = true) (hx : DR F w x v) : ∀ {xs : List D} {vs : List Value} (n : Nat), DRL F w xs vs → DRL F w (xs.set n x) (vs.set n v)
  | [], _, n, h => by simp only [DRL] at h; subst h; simp [DRL]
  | y :: ys, _, 0, h => by
      simp only [DRL] at h
      obtain ⟨u, rest, rfl, h0, h1, h2⟩ := h
      simp only [List.set_cons_zero, DRL]
      exact ⟨v, rest, rfl, h1c, hx, h2⟩
  | y :: ys, _, n + 1, h => by
      simp only [DRL] at h
      obtain ⟨u, rest, rfl, h0, h1, h2⟩ := h
      simp only [List.set_cons_succ, DRL]
      exact ⟨u, _, rfl, h0, h1, DRL.set h1c hx n h2⟩

theorem DRL.of_get {F : Nat → Prop} {w : World} : ∀ {xs : List D} {vs : List Value}, vs.length = xs.length → (∀ (i : Nat) (x : D) (v : Value), xs[i]? = some x → vs[i]? = some v → v.oneCell' = true ∧ DR F w x v) → DRL F w xs vs
  | [], vs, hl, _ => by simp only [DRL]; simpa using hl
  | x :: xs, [], hl, _ => by simp at hl
  | x :: xs, v :: vs, hl, h => by
      simp only [DRL]
      refine ⟨v, vs, rfl, (h 0 x v (by simp) (by simp)).1, (h 0 x v (by simp) (by simp)).2, DRL.of_get (by simpa using hl) fun i y u hy hu => h (i + 1) y u (by simpa using hy) (by simpa using hu)⟩

theorem DRL.replicate {F : Nat → Prop} {w : World} {xs : List D} {vs : List Value} (h : DRL F w xs vs) : ∀ n, DRL F w (List.replicate n xs).flatten (List.replicate n vs).flatten
  | 0 => by simp [DRL]
  | n + 1 => by simp only [List.replicate_succ, List.flatten_cons]; exact DRL.append h (DRL.replicate h n)

/-- Between two worlds no row changes its shape. -/
def Shapes (w w' : World) : Prop := ∀ (b : Nat) arr ty fz, w.heap[b]? = some (.cells arr ty fz) → ∃ arr', w'.heap[b]? = some (.cells arr' ty fz) ∧ arr'.size = arr.size

theorem Shapes.refl (w : World) : Shapes w w := fun _ arr _ _ h => ⟨arr, h, rfl⟩
theorem Shapes.trans {a b c : World} (h : Shapes a b) (k : Shapes b c) : Shapes a c := fun i arr ty fz e => by
  obtain ⟨x, hx, sx⟩ := h i arr ty fz e
  obtain ⟨y, hy, sy⟩ := k i x ty fz hx
  exact ⟨y, hy, sy.trans sx⟩

mutual
theorem VR.mono {io io' : Nat → Option Nat} {F F' : Nat → Prop} {w w' : World} (hi : ∀ k, io' k = io k) (hF : ∀ b, F b → F' b) (hs : Stays F w w') (hsh : Shapes w w') : ∀ (x : V) (v : Value), VR io F w x v → VR io' F' w' x v
  | .d x, v, h => by simp only [VR] at h ⊢; exact DR.mono hF hs x v h
  | .own k n ty sz, v, h => by
      simp only [VR] at h ⊢
      rw [hi k]
      rcases h with h | ⟨b, cap, arr, h1, h2, h3, h4, h5, h6⟩
      · exact .inl h
      · obtain ⟨arr', e, s⟩ := hsh b arr ty (0, 0) h5
        exact .inr ⟨b, cap, arr', h1, h2, h3, h4, e, s.trans h6⟩
  | .ptr k off, v, h => by simp only [VR] at h ⊢; rw [hi k]; exact h
  | .iptr cs o, v, h => by
      simp only [VR] at h ⊢
      obtain ⟨b, off, arr, ty, fz, vals, e, hb, hh, hr, h⟩ := h
      exact ⟨b, off, arr, ty, fz, vals, e, hF b hb, (hs b hb).trans hh, hr, DRL.mono hF hs cs _ h⟩
  | .agg cs, v, h => by simp only [VR] at h ⊢; obtain ⟨a, e, h⟩ := h; exact ⟨a, e, VRL.mono hi hF hs hsh cs _ h⟩
  | .fn f cs, v, h => by simp only [VR] at h ⊢; obtain ⟨a, e, h⟩ := h; exact ⟨a, e, VRL.mono hi hF hs hsh cs _ h⟩
theorem VRL.mono {io io' : Nat → Option Nat} {F F' : Nat → Prop} {w w' : World} (hi : ∀ k, io' k = io k) (hF : ∀ b, F b → F' b) (hs : Stays F w w') (hsh : Shapes w w') : ∀ (xs : List V) (vs : List Value), VRL io F w xs vs → VRL io' F' w' xs vs
  | [], _, h => by simp only [VRL] at h ⊢; exact h
  | x :: xs, _, h => by
      simp only [VRL] at h ⊢
      obtain ⟨v, rest, e, h0, h1, h2⟩ := h
      exact ⟨v, rest, e, h0, VR.mono hi hF hs hsh x v h1, VRL.mono hi hF hs hsh xs rest h2⟩
end

theorem VRL.length {io : Nat → Option Nat} {F : Nat → Prop} {w : World} : ∀ {xs : List V} {vs : List Value}, VRL io F w xs vs → vs.length = xs.length
  | [], _, h => by simp only [VRL] at h; simp [h]
  | x :: xs, _, h => by
      simp only [VRL] at h
      obtain ⟨v, rest, rfl, _, _, h2⟩ := h
      simp [VRL.length h2]

theorem VRL.get {io : Nat → Option Nat} {F : Nat → Prop} {w : World} : ∀ {xs : List V} {vs : List Value}, VRL io F w xs vs → ∀ {i : Nat} {x : V}, xs[i]? = some x → ∃ v, vs[i]? = some v ∧ v.oneCell' = true ∧ VR io F w x v
  | [], _, _, i, x, hi => by simp at hi
  | y :: ys, _, h, i, x, hi => by
      simp only [VRL] at h
      obtain ⟨v, rest, rfl, h0, h1, h2⟩ := h
      cases i with
      | zero => simp at hi; subst hi; exact ⟨v, by simp, h0, h1⟩
      | succ i => simp at hi; obtain ⟨u, hu, hr⟩ := VRL.get h2 hi; exact ⟨u, by simpa using hu, hr⟩

theorem VRL.drop {io : Nat → Option Nat} {F : Nat → Prop} {w : World} : ∀ {xs : List V} {vs : List Value} (n : Nat), VRL io F w xs vs → VRL io F w (xs.drop n) (vs.drop n)
  | xs, vs, 0, h => by simpa using h
  | [], _, n + 1, h => by simp only [VRL] at h; subst h; simp [VRL]
  | x :: xs, _, n + 1, h => by
      simp only [VRL] at h
      obtain ⟨v, rest, rfl, h0, h1, h2⟩ := h
      simpa using VRL.drop n h2

theorem VRL.take {io : Nat → Option Nat} {F : Nat → Prop} {w : World} : ∀ {xs : List V} {vs : List Value} (n : Nat), VRL io F w xs vs → VRL io F w (xs.take n) (vs.take n)
  | xs, vs, 0, h => by simp [VRL]
  | [], _, n + 1, h => by simp only [VRL] at h; subst h; simp [VRL]
  | x :: xs, _, n + 1, h => by
      simp only [VRL] at h
      obtain ⟨v, rest, rfl, h0, h1, h2⟩ := h
      simp only [List.take_succ_cons, VRL]
      exact ⟨v, _, rfl, h0, h1, VRL.take n h2⟩

theorem VRL.append {io : Nat → Option Nat} {F : Nat → Prop} {w : World} : ∀ {xs : List V} {vs : List Value} {ys : List V} {us : List Value}, VRL io F w xs vs → VRL io F w ys us → VRL io F w (xs ++ ys) (vs ++ us)
  | [], _, _, _, h, k => by simp only [VRL] at h; subst h; simpa using k
  | x :: xs, _, _, _, h, k => by
      simp only [VRL] at h
      obtain ⟨v, rest, rfl, h0, h1, h2⟩ := h
      exact ⟨v, _, rfl, h0, h1, VRL.append h2 k⟩

/-- All of them data. -/
def allD : List V → Option (List D)
  | [] => some []
  | .d x :: r => match allD r with | some l => some (x :: l) | none => none
  | _ :: _ => none

theorem VRL.ofD {io : Nat → Option Nat} {F : Nat → Prop} {w : World} : ∀ {xs : List V} {ds : List D} {vs : List Value}, allD xs = some ds → VRL io F w xs vs → DRL F w ds vs
  | [], ds, vs, e, h => by simp [allD] at e; subst e; simpa only [VRL, DRL] using h
  | x :: xs, ds, vs, e, h => by
      cases x with
      | d x =>
        simp only [allD] at e
        split at e
        · rename_i l hl
          simp at e; subst e
          simp only [VRL] at h
          obtain ⟨v, rest, rfl, h0, h1, h2⟩ := h
          exact ⟨v, rest, rfl, h0, by simpa only [VR] using h1, VRL.ofD hl h2⟩
        · cases e
      | own => simp [allD] at e
      | ptr => simp [allD] at e
      | iptr => simp [allD] at e
      | agg => simp [allD] at e
      | fn => simp [allD] at e

theorem DRL.toV {io : Nat → Option Nat} {F : Nat → Prop} {w : World} : ∀ {ds : List D} {vs : List Value}, DRL F w ds vs → VRL io F w (ds.map V.d) vs
  | [], vs, h => by simpa only [VRL, DRL, List.map_nil] using h
  | x :: xs, vs, h => by
      simp only [DRL] at h
      obtain ⟨v, rest, rfl, h0, h1, h2⟩ := h
      simp only [List.map_cons, VRL]
      exact ⟨v, rest, rfl, h0, by simpa only [VR] using h1, DRL.toV h2⟩

/-- A struct out of its cells. -/
def mkAgg (cs : List V) : V := match allD cs with | some ds => .d (.agg ds) | none => .agg cs

theorem VR.mkAgg {io : Nat → Option Nat} {F : Nat → Prop} {w : World} {cs : List V} {arr : Array Value} (h : VRL io F w cs arr.toList) : VR io F w (mkAgg cs) (.agg arr) := by
  unfold Ab.mkAgg
  split
  · rename_i ds hd
    simp only [VR, DR]
    exact ⟨arr, rfl, VRL.ofD hd h⟩
  · simp only [VR]; exact ⟨arr, rfl, h⟩

/-- The cells of a value. -/
def V.cells : V → List V
  | .d (.agg cs) => cs.map V.d
  | .agg cs => cs
  | x => [x]
def D.cells : D → List D
  | .agg cs => cs
  | x => [x]
/-- A value of one cell, or a struct: what can be stored. -/
def V.storable : V → Bool
  | .d .undef => false
  | .d (.tup _) => false
  | .d (.raw v) => v.oneCell'
  | _ => true

theorem DRL.one {F : Nat → Prop} {w : World} : ∀ {xs : List D} {vs : List Value}, DRL F w xs vs → ∀ u ∈ vs, u.oneCell' = true
  | [], vs, h, u, hu => by simp only [DRL] at h; subst h; cases hu
  | x :: xs, vs, h, u, hu => by
      simp only [DRL] at h
      obtain ⟨v, rest, rfl, h0, h1, h2⟩ := h
      rcases List.mem_cons.1 hu with rfl | hu
      · exact h0
      · exact DRL.one h2 u hu
theorem VRL.one {io : Nat → Option Nat} {F : Nat → Prop} {w : World} : ∀ {xs : List V} {vs : List Value}, VRL io F w xs vs → ∀ u ∈ vs, u.oneCell' = true
  | [], vs, h, u, hu => by simp only [VRL] at h; subst h; cases hu
  | x :: xs, vs, h, u, hu => by
      simp only [VRL] at h
      obtain ⟨v, rest, rfl, h0, h1, h2⟩ := h
      rcases List.mem_cons.1 hu with rfl | hu
      · exact h0
      · exact VRL.one h2 u hu

theorem VRL.single {io : Nat → Option Nat} {F : Nat → Prop} {w : World} {x : V} {v : Value} (h1 : v.oneCell' = true) (h : VR io F w x v) : VRL io F w [x] [v] := by
  simp only [VRL]; exact ⟨v, [], rfl, h1, h, rfl⟩

theorem Value.cells_one {v : Value} (h : v.oneCell' = true) : v.cells = #[v] := by cases v <;> first | rfl | cases h

/-- What is stored, cell by cell. -/
theorem VR.cells {io : Nat → Option Nat} {F : Nat → Prop} {w : World} {x : V} {v : Value} (hst : x.storable = true) (h : VR io F w x v) : VRL io F w x.cells v.cells.toList := by
  have one : ∀ {x : V} {v : Value}, v.oneCell' = true → VR io F w x v → VRL io F w [x] v.cells.toList := fun h1 h => by
    rw [Value.cells_one h1]; exact VRL.single h1 h
  cases x with
  | d x =>
    cases x with
    | undef => cases hst
    | tup => cases hst
    | raw u => have e : v = u := by simpa only [VR, DR] using h
               subst e; exact one hst h
    | bool b => have e : v = .bool b := by simpa only [VR, DR] using h
                subst e; exact one rfl h
    | int k n => have e : v = .int k n := by simpa only [VR, DR] using h
                 subst e; exact one rfl h
    | str s => have e : v = .string s := by simpa only [VR, DR] using h
               subst e; exact one rfl h
    | agg cs =>
      simp only [VR, DR] at h
      obtain ⟨arr, rfl, h⟩ := h
      exact DRL.toV h
    | sl n cs =>
      refine one ?_ h
      simp only [VR, DR] at h
      rcases h with ⟨rfl, _⟩ | ⟨_, _, _, _, _, _, _, rfl, _⟩ <;> rfl
    | nils => have e : v = .slice none 0 0 := by simpa only [VR, DR] using h
              subst e; exact one rfl h
  | own k n ty sz =>
    refine one ?_ h
    simp only [VR] at h
    rcases h with ⟨_, rfl, _⟩ | ⟨_, _, _, _, rfl, _⟩ <;> rfl
  | ptr k o => refine one ?_ h; simp only [VR] at h; obtain ⟨_, _, rfl⟩ := h; rfl
  | iptr cs o => refine one ?_ h; simp only [VR] at h; obtain ⟨_, _, _, _, _, _, rfl, _⟩ := h; rfl
  | fn f cs => refine one ?_ h; simp only [VR] at h; obtain ⟨_, rfl, _⟩ := h; rfl
  | agg cs =>
    simp only [VR] at h
    obtain ⟨arr, rfl, h⟩ := h
    exact h
end Go.Ab
