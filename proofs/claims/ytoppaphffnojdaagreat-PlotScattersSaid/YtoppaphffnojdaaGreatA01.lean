/-
  Contracts of functions of the program, and the layer that they are walked with: VA VB VC VD VE VF. Conditions: as each says.
-/
import Derived.WalkKit
import Derived.Orders
import Derived.BigFrame
set_option linter.unnecessarySimpa false
/-
  Trees of data with typed lists, and what it means that a value of the model stands for one in a world. Conditions: none.
-/
set_option linter.unusedSectionVars false
namespace Go.Vw
open Go.RowKit

inductive D : Type 1 where
  | undef
  | bool (b : Bool)
  | int (k : IntKind) (n : Int)
  | str (s : List UInt8)
  | agg (cs : List D)
  | tup (cs : List D)
  | sl (sz : Nat) {α : Type} (e : α → List D) (z : α) (l : List α)
  | nils
  | ptr (cs : List D) (o : Nat)
  | fn (f : FuncId) (cs : List D)
  | ifc (t : TypeId) (x : D)
  | raw (v : Value)
  | full (x : D)

instance : Inhabited D := ⟨.undef⟩

mutual
def DR (F : Nat → Prop) (w : World) : D → Value → Prop
  | .undef, _ => True
  | .bool b, v => v = .bool b
  | .int k n, v => v = .int k n
  | .str s, v => v = .string ⟨s.toArray⟩
  | .agg cs, v => ∃ arr : Array Value, v = .agg arr ∧ arr.size = cs.length ∧ DRA F w (fun i => arr[i]?) 0 cs
  | .tup cs, v => ∃ arr : Array Value, v = .tuple arr ∧ arr.size = cs.length ∧ DRT F w (fun i => arr[i]?) 0 cs
  | .sl sz e _ l, v => ((∃ p c, v = .slice p 0 c) ∧ l = []) ∨
      ∃ b off cap arr ty fz, v = .slice (some ⟨b, off, none⟩) l.length cap ∧ l.length ≤ cap ∧ F b ∧ w.heap[b]? = some (.cells arr ty fz) ∧
        ∀ i a, l[i]? = some a → (e a).length = sz ∧ DRA F w (fun j => arr[j]?) (off + i * sz) (e a)
  | .nils, v => v = .slice none 0 0
  | .ptr cs o, v => ∃ b off arr ty fz, v = .pointer (some ⟨b, off + o, none⟩) ∧ F b ∧ w.heap[b]? = some (.cells arr ty fz) ∧ DRA F w (fun j => arr[j]?) off cs
  | .fn f cs, v => ∃ arr : Array Value, v = .func (.func f) #[] arr ∧ arr.size = cs.length ∧ DRA F w (fun i => arr[i]?) 0 cs
  | .ifc t x, v => ∃ u, v = .iface t u ∧ DR F w x u
  | .raw u, v => v = u
  | .full x, v => (∃ p n, v = .slice p n n) ∧ DR F w x v
def DRA (F : Nat → Prop) (w : World) (g : Nat → Option Value) (off : Nat) : List D → Prop
  | [] => True
  | c :: cs => (∃ v, g off = some v ∧ v.oneCell' = true ∧ DR F w c v) ∧ DRA F w g (off + 1) cs
def DRT (F : Nat → Prop) (w : World) (g : Nat → Option Value) (off : Nat) : List D → Prop
  | [] => True
  | c :: cs => (∃ v, g off = some v ∧ DR F w c v) ∧ DRT F w g (off + 1) cs
end

theorem DRA_iff {F : Nat → Prop} {w : World} {g : Nat → Option Value} : ∀ {cs : List D} {off : Nat}, DRA F w g off cs ↔ ∀ i c, cs[i]? = some c → ∃ v, g (off + i) = some v ∧ v.oneCell' = true ∧ DR F w c v
  | [], off => by simp [DRA]
  | c :: cs, off => by
    simp only [DRA]
    constructor
    · rintro ⟨h1, h2⟩ i d hi
      cases i with
      | zero => simp at hi; subst hi; simpa using h1
      | succ i =>
        simp at hi
        have := DRA_iff.1 h2 i d hi
        rwa [show off + 1 + i = off + (i + 1) by omega] at this
    · intro h
      refine ⟨by simpa using h 0 c (by simp), DRA_iff.2 fun i d hi => ?_⟩
      rw [show off + 1 + i = off + (i + 1) by omega]
      exact h (i + 1) d (by simpa using hi)

theorem DRT_iff {F : Nat → Prop} {w : World} {g : Nat → Option Value} : ∀ {cs : List D} {off : Nat}, DRT F w g off cs ↔ ∀ i c, cs[i]? = some c → ∃ v, g (off + i) = some v ∧ DR F w c v
  | [], off => by simp [DRT]
  | c :: cs, off => by
    simp only [DRT]
    constructor
    · rintro ⟨h1, h2⟩ i d hi
      cases i with
      | zero => simp at hi; subst hi; simpa using h1
      | succ i =>
        simp at hi
        have := DRT_iff.1 h2 i d hi
        rwa [show off + 1 + i = off + (i + 1) by omega] at this
    · intro h
      refine ⟨by simpa using h 0 c (by simp), DRT_iff.2 fun i d hi => ?_⟩
      rw [show off + 1 + i = off + (i + 1) by omega]
      exact h (i + 1) d (by simpa using hi)

def Stays (F : Nat → Prop) (w w' : World) : Prop := ∀ b, F b → w'.heap[b]? = w.heap[b]?

section
variable {F F' : Nat → Prop} {w w' : World} (hF : ∀ b, F b → F' b) (hs : Stays F w w')
include hF hs
mutual
theorem DR.mono : ∀ (x : D) (v : Value), DR F w x v → DR F' w' x v
  | .undef, _, _ => by simp only [DR]
  | .bool _, _, h => by simp only [DR] at h ⊢; exact h
  | .int _ _, _, h => by simp only [DR] at h ⊢; exact h
  | .str _, _, h => by simp only [DR] at h ⊢; exact h
  | .raw _, _, h => by simp only [DR] at h ⊢; exact h
  | .full x, _, h => by simp only [DR] at h ⊢; exact ⟨h.1, DR.mono x _ h.2⟩
  | .nils, _, h => by simp only [DR] at h ⊢; exact h
  | .agg cs, _, h => by simp only [DR] at h ⊢; obtain ⟨a, e, l, h⟩ := h; exact ⟨a, e, l, DRA.mono cs _ _ h⟩
  | .tup cs, _, h => by simp only [DR] at h ⊢; obtain ⟨a, e, l, h⟩ := h; exact ⟨a, e, l, DRT.mono cs _ _ h⟩
  | .fn _ cs, _, h => by simp only [DR] at h ⊢; obtain ⟨a, e, l, h⟩ := h; exact ⟨a, e, l, DRA.mono cs _ _ h⟩
  | .ifc _ x, _, h => by simp only [DR] at h ⊢; obtain ⟨u, e, h⟩ := h; exact ⟨u, e, DR.mono x _ h⟩
  | .ptr cs _, _, h => by simp only [DR] at h ⊢; obtain ⟨b, off, arr, ty, fz, e, hb, hh, h⟩ := h; exact ⟨b, off, arr, ty, fz, e, hF b hb, (hs b hb).trans hh, DRA.mono cs _ _ h⟩
  | .sl sz e _ l, _, h => by
      simp only [DR] at h ⊢
      rcases h with h | ⟨b, off, cap, arr, ty, fz, ev, hc, hb, hh, h⟩
      · exact .inl h
      · exact .inr ⟨b, off, cap, arr, ty, fz, ev, hc, hF b hb, (hs b hb).trans hh, fun i a hi => ⟨(h i a hi).1, DRA.mono (e a) _ _ (h i a hi).2⟩⟩
theorem DRA.mono : ∀ (xs : List D) (g : Nat → Option Value) (off : Nat), DRA F w g off xs → DRA F' w' g off xs
  | [], _, _, _ => by simp only [DRA]
  | x :: xs, g, off, h => by
      simp only [DRA] at h ⊢
      obtain ⟨⟨v, e, h0, h1⟩, h2⟩ := h
      exact ⟨⟨v, e, h0, DR.mono x v h1⟩, DRA.mono xs _ _ h2⟩
theorem DRT.mono : ∀ (xs : List D) (g : Nat → Option Value) (off : Nat), DRT F w g off xs → DRT F' w' g off xs
  | [], _, _, _ => by simp only [DRT]
  | x :: xs, g, off, h => by
      simp only [DRT] at h ⊢
      obtain ⟨⟨v, e, h1⟩, h2⟩ := h
      exact ⟨⟨v, e, DR.mono x v h1⟩, DRT.mono xs _ _ h2⟩
end
end

theorem DRA.congr {F : Nat → Prop} {w : World} {g g' : Nat → Option Value} {off off' : Nat} {cs : List D} (hg : ∀ i, i < cs.length → g' (off' + i) = g (off + i)) (h : DRA F w g off cs) : DRA F w g' off' cs := by
  rw [DRA_iff] at h ⊢
  intro i c hi
  obtain ⟨v, h1, h2⟩ := h i c hi
  exact ⟨v, (hg i (List.getElem?_eq_some_iff.1 hi).1).trans h1, h2⟩

theorem DRA.append {F : Nat → Prop} {w : World} {g : Nat → Option Value} {off : Nat} {xs ys : List D} (h : DRA F w g off xs) (k : DRA F w g (off + xs.length) ys) : DRA F w g off (xs ++ ys) := by
  rw [DRA_iff] at h k ⊢
  intro i c hi
  by_cases h' : i < xs.length
  · rw [List.getElem?_append_left h'] at hi; exact h i c hi
  · rw [List.getElem?_append_right (by omega)] at hi
    have := k _ c hi
    rwa [show off + xs.length + (i - xs.length) = off + i by omega] at this

theorem DRA.drop {F : Nat → Prop} {w : World} {g : Nat → Option Value} {off : Nat} {xs : List D} (h : DRA F w g off xs) (n : Nat) : DRA F w g (off + n) (xs.drop n) := by
  rw [DRA_iff] at h ⊢
  intro i c hi
  rw [List.getElem?_drop] at hi
  have := h _ c hi
  rwa [show off + (n + i) = off + n + i by omega] at this

theorem DRA.take {F : Nat → Prop} {w : World} {g : Nat → Option Value} {off : Nat} {xs : List D} (h : DRA F w g off xs) (n : Nat) : DRA F w g off (xs.take n) := by
  rw [DRA_iff] at h ⊢
  intro i c hi
  rw [List.getElem?_take] at hi
  split at hi
  · exact h i c hi
  · cases hi

inductive V : Type 1 where
  | d (x : D)
  | own (k o n : Nat) (ty : TypeId) (sz : Nat)
  | ptr (k off : Nat)
  | eptr (k sz i f : Nat)
  | agg (cs : List V)
  | tup (cs : List V)
  | fn (f : FuncId) (cs : List V)

instance : Inhabited V := ⟨.d .undef⟩

inductive Blk : Type 1 where
  | data (ty : TypeId) (sz : Nat) {α : Type} (e : α → List D) (z : α) (l : List α)
  | box (ty : TypeId) (cells : List V)
  | hole (ty : TypeId) (sz : Nat) {α : Type} (e : α → List D) (z : α) (l : List α) (i : Nat) (v : V)
  | vec (ty : TypeId) (cells : List V)

structure Keys where
  io : Nat → Option Nat
  ln : Nat → Nat

mutual
def VR (io : Keys) (F : Nat → Prop) (w : World) : V → Value → Prop
  | .d x, v => DR F w x v
  | .own k o n ty sz, v => (io.io k = none ∧ v = .slice none 0 0 ∧ n = 0 ∧ o = 0) ∨
      ∃ b cap arr, io.io k = some b ∧ v = .slice (some ⟨b, o * sz, none⟩) n cap ∧ n ≤ cap ∧ o + cap ≤ maxLen ∧ w.heap[b]? = some (.cells arr ty (0, 0)) ∧ arr.size = (o + cap) * sz ∧ o + n ≤ io.ln k
  | .ptr k off, v => ∃ b, io.io k = some b ∧ v = .pointer (some ⟨b, off, none⟩)
  | .eptr k sz i f, v => ∃ b, io.io k = some b ∧ v = .pointer (some ⟨b, i * sz + f, none⟩)
  | .agg cs, v => ∃ arr : Array Value, v = .agg arr ∧ arr.size = cs.length ∧ VRA io F w (fun i => arr[i]?) 0 cs
  | .tup cs, v => ∃ arr : Array Value, v = .tuple arr ∧ arr.size = cs.length ∧ VRT io F w (fun i => arr[i]?) 0 cs
  | .fn f cs, v => ∃ arr : Array Value, v = .func (.func f) #[] arr ∧ arr.size = cs.length ∧ VRA io F w (fun i => arr[i]?) 0 cs
def VRA (io : Keys) (F : Nat → Prop) (w : World) (g : Nat → Option Value) (off : Nat) : List V → Prop
  | [] => True
  | c :: cs => (∃ v, g off = some v ∧ v.oneCell' = true ∧ VR io F w c v) ∧ VRA io F w g (off + 1) cs
def VRT (io : Keys) (F : Nat → Prop) (w : World) (g : Nat → Option Value) (off : Nat) : List V → Prop
  | [] => True
  | c :: cs => (∃ v, g off = some v ∧ VR io F w c v) ∧ VRT io F w g (off + 1) cs
end

theorem VRA_iff {io : Keys} {F : Nat → Prop} {w : World} {g : Nat → Option Value} : ∀ {cs : List V} {off : Nat}, VRA io F w g off cs ↔ ∀ i c, cs[i]? = some c → ∃ v, g (off + i) = some v ∧ v.oneCell' = true ∧ VR io F w c v
  | [], off => by simp [VRA]
  | c :: cs, off => by
    simp only [VRA]
    constructor
    · rintro ⟨h1, h2⟩ i d hi
      cases i with
      | zero => simp at hi; subst hi; simpa using h1
      | succ i =>
        simp at hi
        have := VRA_iff.1 h2 i d hi
        rwa [show off + 1 + i = off + (i + 1) by omega] at this
    · intro h
      refine ⟨by simpa using h 0 c (by simp), VRA_iff.2 fun i d hi => ?_⟩
      rw [show off + 1 + i = off + (i + 1) by omega]
      exact h (i + 1) d (by simpa using hi)

theorem VRT_iff {io : Keys} {F : Nat → Prop} {w : World} {g : Nat → Option Value} : ∀ {cs : List V} {off : Nat}, VRT io F w g off cs ↔ ∀ i c, cs[i]? = some c → ∃ v, g (off + i) = some v ∧ VR io F w c v
  | [], off => by simp [VRT]
  | c :: cs, off => by
    simp only [VRT]
    constructor
    · rintro ⟨h1, h2⟩ i d hi
      cases i with
      | zero => simp at hi; subst hi; simpa using h1
      | succ i =>
        simp at hi
        have := VRT_iff.1 h2 i d hi
        rwa [show off + 1 + i = off + (i + 1) by omega] at this
    · intro h
      refine ⟨by simpa using h 0 c (by simp), VRT_iff.2 fun i d hi => ?_⟩
      rw [show off + 1 + i = off + (i + 1) by omega]
      exact h (i + 1) d (by simpa using hi)

def Shapes (w w' : World) : Prop := ∀ (b : Nat) arr ty fz, w.heap[b]? = some (.cells arr ty fz) → ∃ arr', w'.heap[b]? = some (.cells arr' ty fz) ∧ arr'.size = arr.size

theorem Shapes.refl (w : World) : Shapes w w := fun _ arr _ _ h => ⟨arr, h, rfl⟩
theorem Shapes.trans {a b c : World} (h : Shapes a b) (k : Shapes b c) : Shapes a c := fun i arr ty fz e => by
  obtain ⟨x, hx, sx⟩ := h i arr ty fz e
  obtain ⟨y, hy, sy⟩ := k i x ty fz hx
  exact ⟨y, hy, sy.trans sx⟩

section
variable {io io' : Keys} {F F' : Nat → Prop} {w w' : World} (hi : ∀ k, io'.io k = io.io k ∧ io.ln k ≤ io'.ln k) (hF : ∀ b, F b → F' b) (hs : Stays F w w') (hsh : Shapes w w')
include hi hF hs hsh
mutual
theorem VR.mono : ∀ (x : V) (v : Value), VR io F w x v → VR io' F' w' x v
  | .d x, v, h => by simp only [VR] at h ⊢; exact DR.mono hF hs x v h
  | .own k o n ty sz, v, h => by
      simp only [VR] at h ⊢
      rw [(hi k).1]
      rcases h with h | ⟨b, cap, arr, h1, h2, h3, h4, h5, h6⟩
      · exact .inl h
      · obtain ⟨arr', e, s⟩ := hsh b arr ty (0, 0) h5
        exact .inr ⟨b, cap, arr', h1, h2, h3, h4, e, s.trans h6.1, Nat.le_trans h6.2 (hi k).2⟩
  | .ptr k off, v, h => by simp only [VR] at h ⊢; rw [(hi k).1]; exact h
  | .eptr k sz i f, v, h => by simp only [VR] at h ⊢; rw [(hi k).1]; exact h
  | .agg cs, v, h => by simp only [VR] at h ⊢; obtain ⟨a, e, l, h⟩ := h; exact ⟨a, e, l, VRA.mono cs _ _ h⟩
  | .tup cs, v, h => by simp only [VR] at h ⊢; obtain ⟨a, e, l, h⟩ := h; exact ⟨a, e, l, VRT.mono cs _ _ h⟩
  | .fn f cs, v, h => by simp only [VR] at h ⊢; obtain ⟨a, e, l, h⟩ := h; exact ⟨a, e, l, VRA.mono cs _ _ h⟩
theorem VRA.mono : ∀ (xs : List V) (g : Nat → Option Value) (off : Nat), VRA io F w g off xs → VRA io' F' w' g off xs
  | [], _, _, _ => by simp only [VRA]
  | x :: xs, g, off, h => by
      simp only [VRA] at h ⊢
      obtain ⟨⟨v, e, h0, h1⟩, h2⟩ := h
      exact ⟨⟨v, e, h0, VR.mono x v h1⟩, VRA.mono xs _ _ h2⟩
theorem VRT.mono : ∀ (xs : List V) (g : Nat → Option Value) (off : Nat), VRT io F w g off xs → VRT io' F' w' g off xs
  | [], _, _, _ => by simp only [VRT]
  | x :: xs, g, off, h => by
      simp only [VRT] at h ⊢
      obtain ⟨⟨v, e, h1⟩, h2⟩ := h
      exact ⟨⟨v, e, VR.mono x v h1⟩, VRT.mono xs _ _ h2⟩
end
end

theorem VRA.congr {io : Keys} {F : Nat → Prop} {w : World} {g g' : Nat → Option Value} {off off' : Nat} {cs : List V} (hg : ∀ i, i < cs.length → g' (off' + i) = g (off + i)) (h : VRA io F w g off cs) : VRA io F w g' off' cs := by
  rw [VRA_iff] at h ⊢
  intro i c hi
  obtain ⟨v, h1, h2⟩ := h i c hi
  exact ⟨v, (hg i (List.getElem?_eq_some_iff.1 hi).1).trans h1, h2⟩

theorem VRA.drop {io : Keys} {F : Nat → Prop} {w : World} {g : Nat → Option Value} {off : Nat} {xs : List V} (h : VRA io F w g off xs) (n : Nat) : VRA io F w g (off + n) (xs.drop n) := by
  rw [VRA_iff] at h ⊢
  intro i c hi
  rw [List.getElem?_drop] at hi
  have := h _ c hi
  rwa [show off + (n + i) = off + n + i by omega] at this

theorem VRA.take {io : Keys} {F : Nat → Prop} {w : World} {g : Nat → Option Value} {off : Nat} {xs : List V} (h : VRA io F w g off xs) (n : Nat) : VRA io F w g off (xs.take n) := by
  rw [VRA_iff] at h ⊢
  intro i c hi
  rw [List.getElem?_take] at hi
  split at hi
  · exact h i c hi
  · cases hi

theorem DRA.toV {io : Keys} {F : Nat → Prop} {w : World} {g : Nat → Option Value} {off : Nat} {ds : List D} (h : DRA F w g off ds) : VRA io F w g off (ds.map V.d) := by
  rw [DRA_iff] at h
  rw [VRA_iff]
  intro i c hi
  rw [List.getElem?_map, Option.map_eq_some_iff] at hi
  obtain ⟨x, hx, rfl⟩ := hi
  obtain ⟨v, h1, h2, h3⟩ := h i x hx
  exact ⟨v, h1, h2, by simpa only [VR] using h3⟩

def allD : List V → Option (List D)
  | [] => some []
  | .d x :: r => match allD r with | some l => some (x :: l) | none => none
  | _ :: _ => none

theorem allD_map : ∀ {xs : List V} {ds : List D}, allD xs = some ds → xs = ds.map V.d
  | [], ds, h => by simp [allD] at h; subst h; rfl
  | x :: xs, ds, h => by
    cases x <;> simp only [allD] at h <;> try (cases h; done)
    split at h
    · rename_i l hl
      simp only [Option.some.injEq] at h; subst h
      rw [allD_map hl]; rfl
    · cases h

theorem VRA.ofD {io : Keys} {F : Nat → Prop} {w : World} {g : Nat → Option Value} {off : Nat} {xs : List V} {ds : List D} (e : allD xs = some ds) (h : VRA io F w g off xs) : DRA F w g off ds := by
  rw [allD_map e, VRA_iff] at h
  rw [DRA_iff]
  intro i c hi
  obtain ⟨v, h1, h2, h3⟩ := h i (.d c) (by rw [List.getElem?_map, hi]; rfl)
  exact ⟨v, h1, h2, by simpa only [VR] using h3⟩
theorem VRT.ofD {io : Keys} {F : Nat → Prop} {w : World} {g : Nat → Option Value} {off : Nat} {xs : List V} {ds : List D} (e : allD xs = some ds) (h : VRT io F w g off xs) : DRT F w g off ds := by
  rw [allD_map e, VRT_iff] at h
  rw [DRT_iff]
  intro i c hi
  obtain ⟨v, h1, h3⟩ := h i (.d c) (by rw [List.getElem?_map, hi]; rfl)
  exact ⟨v, h1, by simpa only [VR] using h3⟩

def mkAgg (cs : List V) : V := match allD cs with | some ds => .d (.agg ds) | none => .agg cs
theorem VR.mkAgg {io : Keys} {F : Nat → Prop} {w : World} {cs : List V} {arr : Array Value} (hl : arr.size = cs.length) (h : VRA io F w (fun i => arr[i]?) 0 cs) : VR io F w (mkAgg cs) (.agg arr) := by
  unfold Vw.mkAgg
  split
  · rename_i ds hd
    simp only [VR, DR]
    exact ⟨arr, rfl, by rw [hl, allD_map hd]; simp, VRA.ofD hd h⟩
  · simp only [VR]; exact ⟨arr, rfl, hl, h⟩

def D.cells : D → List D
  | .agg cs => cs
  | x => [x]
def V.cells : V → List V
  | .d (.agg cs) => cs.map V.d
  | .agg cs => cs
  | x => [x]
def V.storable : V → Bool
  | .d .undef => false
  | .d (.tup _) => false
  | .d (.raw v) => v.oneCell'
  | .tup _ => false
  | _ => true

theorem V.cells_d (y : D) : (V.d y).cells = y.cells.map V.d := by cases y <;> rfl

theorem oneOf {io : Keys} {F : Nat → Prop} {w : World} {x : V} {v : Value} (h1 : v.oneCell' = true) (h : VR io F w x v) : v.cells.size = 1 ∧ VRA io F w (fun i => v.cells[i]?) 0 [x] := by
  have : v.cells = #[v] := by cases v <;> first | rfl | cases h1
  rw [this]
  refine ⟨rfl, ?_⟩
  simp only [VRA]
  exact ⟨⟨v, by simp, h1, h⟩, trivial⟩

theorem VR.cells {io : Keys} {F : Nat → Prop} {w : World} {x : V} {v : Value} (hst : x.storable = true) (h : VR io F w x v) : v.cells.size = x.cells.length ∧ VRA io F w (fun i => v.cells[i]?) 0 x.cells := by
  cases x with
  | d x =>
    cases x with
    | undef => cases hst
    | tup => cases hst
    | raw u => have e : v = u := by simpa only [VR, DR] using h
               subst e; exact oneOf hst h
    | bool b => have e : v = .bool b := by simpa only [VR, DR] using h
                subst e; exact oneOf rfl h
    | int k n => have e : v = .int k n := by simpa only [VR, DR] using h
                 subst e; exact oneOf rfl h
    | str s => have e : v = .string ⟨s.toArray⟩ := by simpa only [VR, DR] using h
               subst e; exact oneOf rfl h
    | agg cs =>
      simp only [VR, DR] at h
      obtain ⟨arr, rfl, hl, h⟩ := h
      exact ⟨by simpa [V.cells, Value.cells] using hl, DRA.toV h⟩
    | sl sz e z l =>
      refine oneOf ?_ h
      simp only [VR, DR] at h
      rcases h with ⟨⟨_, _, rfl⟩, _⟩ | ⟨_, _, _, _, _, _, rfl, _⟩ <;> rfl
    | nils => have e : v = .slice none 0 0 := by simpa only [VR, DR] using h
              subst e; exact oneOf rfl h
    | ptr cs o => refine oneOf ?_ h; simp only [VR, DR] at h; obtain ⟨_, _, _, _, _, rfl, _⟩ := h; rfl
    | fn f cs => refine oneOf ?_ h; simp only [VR, DR] at h; obtain ⟨_, rfl, _⟩ := h; rfl
    | ifc t x => refine oneOf ?_ h; simp only [VR, DR] at h; obtain ⟨_, rfl, _⟩ := h; rfl
    | full x => refine oneOf ?_ h; simp only [VR, DR] at h; obtain ⟨⟨_, _, rfl⟩, _⟩ := h; rfl
  | own k o n ty sz =>
    refine oneOf ?_ h
    simp only [VR] at h
    rcases h with ⟨_, rfl, _⟩ | ⟨_, _, _, _, rfl, _⟩ <;> rfl
  | ptr k o => refine oneOf ?_ h; simp only [VR] at h; obtain ⟨_, _, rfl⟩ := h; rfl
  | eptr k sz i f => refine oneOf ?_ h; simp only [VR] at h; obtain ⟨_, _, rfl⟩ := h; rfl
  | fn f cs => refine oneOf ?_ h; simp only [VR] at h; obtain ⟨_, rfl, _⟩ := h; rfl
  | tup cs => cases hst
  | agg cs =>
    simp only [VR] at h
    obtain ⟨arr, rfl, hl, h⟩ := h
    exact ⟨by simpa [V.cells, Value.cells] using hl, h⟩

theorem DR.cells {F : Nat → Prop} {w : World} {y : D} {v : Value} (hst : (V.d y).storable = true) (h : DR F w y v) : v.cells.size = y.cells.length ∧ DRA F w (fun i => v.cells[i]?) 0 y.cells := by
  have := VR.cells (io := ⟨fun _ => none, fun _ => 0⟩) (F := F) (w := w) hst (x := V.d y) (v := v) (by simpa only [VR] using h)
  rw [V.cells_d] at this
  refine ⟨by simpa using this.1, VRA.ofD (xs := y.cells.map V.d) ?_ this.2⟩
  induction y.cells with
  | nil => rfl
  | cons x xs ih => simp [allD, ih]
def cut {α : Type} (o n : Nat) (l : List α) : List α := (l.drop o).take n
theorem cut_eq {α : Type} (o n : Nat) (l : List α) : cut o n l = (l.drop o).take n := rfl
attribute [irreducible] cut
@[simp] theorem cut_all {α : Type} (l : List α) : cut 0 l.length l = l := by rw [cut_eq, List.drop_zero, List.take_length]
@[simp] theorem cut_zero {α : Type} (n : Nat) (l : List α) : cut 0 n l = l.take n := by rw [cut_eq, List.drop_zero]
end Go.Vw

/-
  The abstract state, its relation to the machine's, and arithmetic on data. Conditions: the table of types is the program's.
-/
set_option linter.unusedSimpArgs false
namespace Go.Vw
open Go.RowKit

structure TyD where
  desc : TypeDesc
  size : Nat
  bytes : Nat
  zero : Value

structure TyOk (P : Program) (t : TypeId) (d : TyD) : Prop where
  und : P.underlying t = some d.desc
  inf : ∃ i, P.info? t = some i ∧ i.size = d.size ∧ i.bytes = d.bytes ∧ i.zero = some d.zero

def TabOk (P : Program) (T : TypeId → Option TyD) : Prop := ∀ t d, T t = some d → TyOk P t d

def tyOf (P : Program) (t : TypeId) : Option TyD :=
  match P.underlying t, P.info? t with
  | some d, some i => match i.zero with | some z => some ⟨d, i.size, i.bytes, z⟩ | none => none
  | _, _ => none

theorem TyOk.of {P : Program} {t : TypeId} {d : TyD} (h : tyOf P t = some d) : TyOk P t d := by
  unfold tyOf at h
  split at h
  · rename_i u i hu hi
    split at h
    · rename_i z hz
      simp at h; subst h
      exact ⟨hu, i, hi, rfl, rfl, hz⟩
    · cases h
  · cases h

section
variable {P : Program} {t : TypeId} {d : TyD} (h : TyOk P t d) (w : World)
include h
theorem TyOk.runU : (underlying t).run P w = .ok d.desc w := run_underlying h.und w
theorem TyOk.runS : (sizeOf t).run P w = .ok d.size w := by
  obtain ⟨i, hi, hs, _, _⟩ := h.inf
  simp [sizeOf, typeInfo, hi, hs]
theorem TyOk.runZ : (zeroValue t).run P w = .ok d.zero w := by
  obtain ⟨i, hi, _, _, hz⟩ := h.inf
  simp [zeroValue, typeInfo, hi, hz]
end

def TypeDesc.many : TypeDesc → Bool
  | .struct _ | .array _ _ => true
  | _ => false

theorem TyOk.runA {P : Program} {t : TypeId} {d : TyD} (h : TyOk P t d) (w : World) : (isAgg t).run P w = .ok (TypeDesc.many d.desc) w := by
  simp only [isAgg, Sem.run_bind, h.runU, Result.andThen_ok]
  cases d.desc <;> rfl

structure St : Type 1 where
  tmps : Nat → V
  blk : Nat → Option Blk
  dfs : List (FuncId × List V)

def D.ofC : Value → D
  | .bool b => .bool b
  | .int k n => .int k n
  | .string s => .str s.data.toList
  | .slice none 0 0 => .nils
  | v => .raw v
def D.ofL : List Value → List D
  | [] => []
  | v :: l => D.ofC v :: D.ofL l
def D.ofV : Value → D
  | .agg cs => bif cs.toList.all (·.oneCell') then .agg (D.ofL cs.toList) else .raw (.agg cs)
  | v => D.ofC v

theorem DR.ofC (F : Nat → Prop) (w : World) (v : Value) : DR F w (D.ofC v) v := by
  unfold D.ofC
  split <;> simp [DR]

theorem D.ofL_eq (l : List Value) : D.ofL l = l.map D.ofC := by induction l <;> simp [D.ofL, *]

theorem DR.ofV (F : Nat → Prop) (w : World) (v : Value) : DR F w (D.ofV v) v := by
  unfold D.ofV
  split
  · rename_i cs
    cases h : cs.toList.all (·.oneCell') with
    | false => simp only [cond_false, DR]
    | true =>
      simp only [cond_true, DR]
      refine ⟨cs, rfl, by simp [D.ofL_eq], ?_⟩
      rw [DRA_iff]
      intro i c hi
      simp only [D.ofL_eq, List.getElem?_map, Option.map_eq_some_iff] at hi
      obtain ⟨v, hv, rfl⟩ := hi
      exact ⟨v, by simpa using hv, List.all_eq_true.1 h v (List.mem_of_getElem? hv), DR.ofC F w v⟩
  · exact DR.ofC F w _

def constV (v : Value) : V :=
  match D.ofV v with
  | .bool b => .d (.bool b)
  | .int k n => .d (.int k n)
  | .str s => .d (.str s)
  | .agg cs => .d (.agg cs)
  | .nils => .d .nils
  | x => .d x
theorem constV_eq (v : Value) : constV v = .d (D.ofV v) := by unfold constV; split <;> simp_all
def St.opd (s : St) : Operand → V
  | .tmp t => s.tmps t
  | .const v => constV v
  | .global g => .d (.raw (.pointer (some ⟨g, 0, none⟩)))
  | .func f => .d (.fn f [])

structure Ctx where
  P : Program
  T : TypeId → Option TyD
  ok : TabOk P T
  N : Nat
  w0 : World
  A : Nat → Prop
  F0 : Nat → Prop
  K : List Nat
  io0 : Nat → Option Nat

def LRA (F : Nat → Prop) (w : World) (g : Nat → Option Value) (off sz : Nat) {α : Type} (e : α → List D) (l : List α) : Prop :=
  ∀ i a, l[i]? = some a → (e a).length = sz ∧ DRA F w g (off + i * sz) (e a)

def HRA (io : Keys) (F : Nat → Prop) (w : World) (g : Nat → Option Value) (sz : Nat) {α : Type} (e : α → List D) (i : Nat) (v : V) (l : List α) : Prop :=
  (∀ j a, j ≠ i → l[j]? = some a → (e a).length = sz ∧ DRA F w g (j * sz) (e a)) ∧ sz = 1 ∧ ∃ u, g i = some u ∧ u.oneCell' = true ∧ VR io F w v u

def BR (A : Nat → Prop) (n0 : Nat) (io : Keys) (F : Nat → Prop) (w : World) (k : Nat) : Blk → Prop
  | .data ty sz e _ l => (io.io k = none ∧ l = []) ∨ ∃ b arr, io.io k = some b ∧ ¬ F b ∧ (A b ∨ n0 ≤ b) ∧ w.heap[b]? = some (.cells arr ty (0, 0)) ∧ LRA F w (fun j => arr[j]?) 0 sz e l
  | .box ty cells => ∃ b arr, io.io k = some b ∧ ¬ F b ∧ (A b ∨ n0 ≤ b) ∧ w.heap[b]? = some (.cells arr ty (0, 0)) ∧ VRA io F w (fun j => arr[j]?) 0 cells
  | .vec ty cells => ∃ b arr, io.io k = some b ∧ ¬ F b ∧ (A b ∨ n0 ≤ b) ∧ w.heap[b]? = some (.cells arr ty (0, 0)) ∧ VRA io F w (fun j => arr[j]?) 0 cells
  | .hole ty sz e _ l i v => ∃ b arr, io.io k = some b ∧ ¬ F b ∧ (A b ∨ n0 ≤ b) ∧ w.heap[b]? = some (.cells arr ty (0, 0)) ∧ HRA io F w (fun j => arr[j]?) sz e i v l

structure Kept (A : Nat → Prop) (w0 w : World) : Prop where
  os : w.os = w0.os
  tape : w.tape = w0.tape
  output : w.output = w0.output
  size : w0.heap.size ≤ w.heap.size
  block : ∀ b, b < w0.heap.size → ¬ A b → w.heap[b]? = w0.heap[b]?
  shape : Shapes w0 w

def DfR (io : Keys) (F : Nat → Prop) (w : World) : List (FuncId × List V) → List Deferred → Prop
  | [], ds => ds = []
  | (f, cs) :: r, ds => ∃ arr rest, ds = { target := .fn (.func f) arr, args := #[] } :: rest ∧ arr.size = cs.length ∧ VRA io F w (fun i => arr[i]?) 0 cs ∧ DfR io F w r rest

def St.ln (s : St) (k : Nat) : Nat := match s.blk k with | some (.data _ _ _ _ l) => l.length | some (.hole _ _ _ _ l _ _) => l.length | some (.vec _ cs) => cs.length | _ => 0
def St.keys (s : St) (io : Nat → Option Nat) : Keys := ⟨io, s.ln⟩

structure SR (X : Ctx) (io : Nat → Option Nat) (F : Nat → Prop) (s : St) (a : Act) (w : World) : Prop where
  kept : Kept X.A X.w0 w
  tm : ∀ t, VR (s.keys io) F w (s.tmps t) (a.tmps.getD t undef)
  nt : a.tmps.size = X.N
  df : DfR (s.keys io) F w s.dfs a.defers
  bl : ∀ k b, s.blk k = some b → BR X.A X.w0.heap.size (s.keys io) F w k b
  inj : ∀ k k' b, s.blk k ≠ none → s.blk k' ≠ none → io k = some b → io k' = some b → k = k'
  ff : ∀ b, F b → b < w.heap.size ∧ (X.F0 b ∨ X.w0.heap.size ≤ b ∨ X.A b)
  f0 : ∀ b, X.F0 b → F b
  st : ∀ k, k ∈ X.K → io k = X.io0 k

def St.put (s : St) (dst : Option Tmp) (x : V) : St :=
  match dst with
  | some d => { s with tmps := fun t => bif Nat.beq t d then x else s.tmps t }
  | none => s

theorem opd_of {io : Keys} {F : Nat → Prop} {s : St} {a : Act} {w : World} (h : ∀ t, VR io F w (s.tmps t) (a.tmps.getD t undef)) (x : Operand) : VR io F w (s.opd x) (a.eval x) := by
  cases x with
  | tmp t => exact h t
  | const v => simp only [St.opd, Act.eval, constV_eq, VR]; exact DR.ofV F w v
  | global g => simp only [St.opd, Act.eval, VR, DR]
  | func f => simp only [St.opd, Act.eval, VR, DR]; exact ⟨#[], rfl, rfl, by simp [DRA]⟩
theorem SR.opd {X : Ctx} {io : Nat → Option Nat} {F : Nat → Prop} {s : St} {a : Act} {w : World} (h : SR X io F s a w) (x : Operand) : VR (s.keys io) F w (s.opd x) (a.eval x) := opd_of h.tm x

theorem tm_put {io : Keys} {F : Nat → Prop} {s : St} {a : Act} {w : World} (h : ∀ t, VR io F w (s.tmps t) (a.tmps.getD t undef)) {dst : Option Tmp} {x : V} {v : Value} (hd : ∀ d, dst = some d → d < a.tmps.size) (hx : VR io F w x v) : ∀ t, VR io F w ((s.put dst x).tmps t) ((a.put dst v).tmps.getD t undef) := by
  cases dst with
  | none => exact h
  | some d =>
    have hdn := hd d rfl
    intro t
    simp only [St.put, Act.put]
    by_cases e : t = d
    · subst e
      have : Nat.beq t t = true := by simp
      simp only [this, cond_true]
      simp only [Array.getD_eq_getD_getElem?, Array.getElem?_setIfInBounds]
      simp [hdn, hx]
    · have : Nat.beq t d = false := by
        cases hb : Nat.beq t d with
        | false => rfl
        | true => exact absurd (Nat.eq_of_beq_eq_true hb) e
      simp only [this, cond_false]
      have h1 := h t
      simp only [Array.getD_eq_getD_getElem?] at h1 ⊢
      rw [Array.getElem?_setIfInBounds_ne (by omega)]
      exact h1

theorem put_defers (a : Act) (dst : Option Tmp) (v : Value) : (a.put dst v).defers = a.defers := by cases dst <;> rfl
theorem put_size (a : Act) (dst : Option Tmp) (v : Value) : (a.put dst v).tmps.size = a.tmps.size := by cases dst <;> simp [Act.put]
theorem put_blk (s : St) (dst : Option Tmp) (x : V) : (s.put dst x).blk = s.blk := by cases dst <;> rfl
theorem put_dfs (s : St) (dst : Option Tmp) (x : V) : (s.put dst x).dfs = s.dfs := by cases dst <;> rfl

theorem put_keys (s : St) (dst : Option Tmp) (x : V) (io : Nat → Option Nat) : (s.put dst x).keys io = s.keys io := by cases dst <;> rfl
theorem SR.put {X : Ctx} {io : Nat → Option Nat} {F : Nat → Prop} {s : St} {a : Act} {w : World} (h : SR X io F s a w) {dst : Option Tmp} {x : V} {v : Value} (hd : ∀ d, dst = some d → d < X.N) (hx : VR (s.keys io) F w x v) : SR X io F (s.put dst x) (a.put dst v) w :=
  ⟨h.kept, by rw [put_keys]; exact tm_put h.tm (fun d e => by rw [h.nt]; exact hd d e) hx, (put_size a dst v).trans h.nt, by rw [put_defers, put_dfs, put_keys]; exact h.df, by rw [put_blk, put_keys]; exact h.bl, by rw [put_blk]; exact h.inj, h.ff, h.f0, h.st⟩

/-! ## Arithmetic on data -/

abbrev Ev (α : Type 1) := Option (Prop × α)

def lim : IntKind → Int → Prop
  | .i64, e => -9223372036854775808 ≤ e ∧ e < 9223372036854775808
  | .u64, e => 0 ≤ e ∧ e < 18446744073709551616
  | .i32, e => -2147483648 ≤ e ∧ e < 2147483648
  | .u32, e => 0 ≤ e ∧ e < 4294967296
  | .u8, e => 0 ≤ e ∧ e < 256
  | _, _ => False

theorem wrap_lim : ∀ {k : IntKind} {e : Int}, lim k e → k.wrap e = e
  | .i64, e, h => IntWalk.i64_in e (by simp only [lim] at h; omega)
  | .u64, e, h => by simp only [lim] at h; unfold IntKind.wrap; simp [IntKind.bits, IntKind.signed]; omega
  | .i32, e, h => by simp only [lim] at h; unfold IntKind.wrap; simp [IntKind.bits, IntKind.signed]; split <;> omega
  | .u32, e, h => by simp only [lim] at h; unfold IntKind.wrap; simp [IntKind.bits, IntKind.signed]; omega
  | .u8, e, h => by simp only [lim] at h; unfold IntKind.wrap; simp [IntKind.bits, IntKind.signed]; omega
  | .i8, _, h => h.elim
  | .i16, _, h => h.elim
  | .u16, _, h => h.elim

def rest? : IntKind → Option Int
  | .u64 => some 18446744073709551616
  | .u32 => some 4294967296
  | .u8 => some 256
  | _ => none
theorem wrap_rest : ∀ {k : IntKind} {m : Int} (e : Int), rest? k = some m → k.wrap e = e % m
  | .u64, _, e, h => by cases h; unfold IntKind.wrap; simp [IntKind.bits, IntKind.signed]
  | .u32, _, e, h => by cases h; unfold IntKind.wrap; simp [IntKind.bits, IntKind.signed]
  | .u8, _, e, h => by cases h; unfold IntKind.wrap; simp [IntKind.bits, IntKind.signed]

theorem lim_bits {k : IntKind} {e : Int} (h : lim k e) (h0 : 0 ≤ e) : e < 2 ^ k.bits := by
  cases k <;> simp only [lim] at h <;> (try exact h.elim) <;> simp only [IntKind.bits] <;> omega

def pw? : Nat → Option Int
  | 1 => some 2
  | 8 => some 256
  | 16 => some 65536
  | 31 => some 2147483648
  | 32 => some 4294967296
  | 63 => some 9223372036854775808
  | _ => none
theorem pw_eq : ∀ {n : Nat} {c : Int}, pw? n = some c → (2 : Int) ^ n = c := fun {n c} h => by
  unfold pw? at h
  split at h <;> first | (cases h; rfl) | cases h

def binI (op : BinOp) (k k' : IntKind) (a b : Int) : Ev D :=
  match op with
  | .shl => match b with
    | .ofNat n => match pw? n with
      | some c => some (n < k.bits ∧ lim k (a * c), .int k (a * c))
      | none => some (n < k.bits ∧ lim k (a * 2 ^ n), .int k (a * 2 ^ n))
    | .negSucc _ => none
  | .shr => match b with
    | .ofNat n => match pw? n with
      | some c => some (n < k.bits, .int k (a / c))
      | none => some (n < k.bits, .int k (a / 2 ^ n))
    | .negSucc _ => none
  | .add => some (k = k' ∧ lim k (a + b), .int k (a + b))
  | .sub => some (k = k' ∧ lim k (a - b), .int k (a - b))
  | .mul => some (k = k' ∧ lim k (a * b), .int k (a * b))
  | .quo => some (k = k' ∧ 0 ≤ a ∧ 0 < b ∧ lim k a, .int k (a / b))
  | .rem => some (k = k' ∧ 0 ≤ a ∧ 0 < b, .int k (a % b))
  | .and => some (k = k' ∧ 0 ≤ a ∧ 0 ≤ b ∧ lim k a ∧ lim k b, .int k ((a.toNat &&& b.toNat : Nat) : Int))
  | .or => some (k = k' ∧ 0 ≤ a ∧ 0 ≤ b ∧ lim k a ∧ lim k b, .int k ((a.toNat ||| b.toNat : Nat) : Int))
  | .xor => some (k = k' ∧ 0 ≤ a ∧ 0 ≤ b ∧ lim k a ∧ lim k b, .int k ((a.toNat ^^^ b.toNat : Nat) : Int))
  | .andNot => none
  | .eql => some (k = k', .bool (decide (a = b)))
  | .neq => some (k = k', .bool (!decide (a = b)))
  | .lss => some (k = k', .bool (decide (a < b)))
  | .leq => some (k = k', .bool (decide (a ≤ b)))
  | .gtr => some (k = k', .bool (decide (b < a)))
  | .geq => some (k = k', .bool (decide (b ≤ a)))

def binR (op : BinOp) (k k' : IntKind) (a b : Int) : Ev D :=
  match op, rest? k with
  | .shl, some m => some (0 ≤ b ∧ b < k.bits, .int k ((a * 2 ^ b.toNat) % m))
  | .shr, _ => some (0 ≤ b ∧ b < k.bits, .int k (a / 2 ^ b.toNat))
  | .add, some m => some (k = k', .int k ((a + b) % m))
  | .sub, some m => some (k = k', .int k ((a - b) % m))
  | .mul, some m => some (k = k', .int k ((a * b) % m))
  | .quo, _ => some (k = k' ∧ b ≠ 0, .int k (k.wrap (a.tdiv b)))
  | .rem, _ => some (k = k' ∧ b ≠ 0, .int k (a.tmod b))
  | _, _ => none

def D.bin (i : BinOp → IntKind → IntKind → Int → Int → Ev D) (op : BinOp) : D → D → Ev D
  | .int k a, .int k' b => i op k k' a b
  | .str a, .str b =>
    match op with
    | .add => some (((a.length + b.length : Nat) : Int) ≤ IntKind.i64.max, .str (a ++ b))
    | .eql => some (True, .bool (decide (a = b)))
    | .neq => some (True, .bool !(decide (a = b)))
    | .lss => some (True, .bool (Op.bytesLess a b))
    | _ => none
  | .bool a, .bool b =>
    match op with
    | .eql => some (True, .bool (a == b))
    | .neq => some (True, .bool !(a == b))
    | _ => none
  | _, _ => none

def D.un (op : UnOp) : D → Ev D
  | .int k n => match op with
    | .neg => some (lim k (-n), .int k (-n))
    | .xor => match rest? k with | some m => some (0 ≤ n ∧ lim k n, .int k (((m - 1).toNat ^^^ n.toNat : Nat) : Int)) | none => none
    | _ => none
  | .bool b => match op with
    | .not => some (True, .bool !b)
    | _ => none
  | _ => none
def D.unR (op : UnOp) : D → Ev D
  | .int k n => match op, rest? k with
    | .neg, some m => some (True, .int k ((-n) % m))
    | .neg, none => some (True, .int k (k.wrap (-n)))
    | _, _ => none
  | _ => none

def TypeDesc.isBool : TypeDesc → Bool
  | .bool => true
  | _ => false

def boolFits (dd : TyD) : D → Prop
  | .bool _ => TypeDesc.isBool dd.desc = true
  | _ => True

def D.toValue : D → Value
  | .bool b => .bool b
  | .int k n => .int k n
  | .str s => .string ⟨s.toArray⟩
  | _ => Go.undef

theorem ex_of {P : Program} {w : World} {m : Sem Value} {F : Nat → Prop} {r : D} (h2 : DR F w r (D.toValue r)) (h : m.run P w = .ok (D.toValue r) w) : ∃ v, m.run P w = .ok v w ∧ DR F w r v := ⟨_, h, h2⟩

theorem run_equal_bool {P : Program} {t : TypeId} {w : World} (hu : (underlying t).run P w = .ok .bool w) (a b : Bool) : (Op.equal t (.bool a) (.bool b)).run P w = .ok (a == b) w := by
  have : ∀ d, (Op.equalIn (d + 1) t (.bool a) (.bool b)).run P w = .ok (a == b) w := fun d => by simp [Op.equalIn, hu]
  exact this 9999

theorem toNat_ofInt_nonneg {n : Nat} {a : Int} (h0 : 0 ≤ a) (h : a < 2 ^ n) : (BitVec.ofInt n a).toNat = a.toNat := by
  rw [BitVec.toNat_ofInt]
  have : a % ((2 ^ n : Nat) : Int) = a := Int.emod_eq_of_lt h0 (by simpa using h)
  rw [this]

theorem run_bits {k : IntKind} {a b : Int} (f : Nat → Nat → Nat) (h0 : 0 ≤ a) (h1 : 0 ≤ b) (ha : lim k a) (hb : lim k b) (hf : ∀ n x y, x < 2 ^ n → y < 2 ^ n → f x y < 2 ^ n) : k.wrap ((f a.toNat b.toNat : Nat) : Int) = (f a.toNat b.toNat : Nat) := by
  refine wrap_lim ?_
  have g : ∀ n : Nat, a < 2 ^ n → b < 2 ^ n → ((f a.toNat b.toNat : Nat) : Int) < 2 ^ n := fun n h2 h3 => by
    have := hf n a.toNat b.toNat (by have : ((a.toNat : Nat) : Int) < ((2 ^ n : Nat) : Int) := by simp; omega
                                     omega) (by have : ((b.toNat : Nat) : Int) < ((2 ^ n : Nat) : Int) := by simp; omega
                                                omega)
    have : ((f a.toNat b.toNat : Nat) : Int) < ((2 ^ n : Nat) : Int) := by omega
    simpa using this
  have s := g (k.bits - 1)
  have t := g k.bits
  cases k <;> simp only [lim] at ha hb ⊢ <;> (try exact ha.elim) <;> simp only [IntKind.bits] at s t
  · have := s (by omega) (by omega); omega
  · have := s (by omega) (by omega); omega
  · have := t (by omega) (by omega); omega
  · have := t (by omega) (by omega); omega
  · have := t (by omega) (by omega); omega

theorem run_binInt {P : Program} {F : Nat → Prop} {w : World} (op : BinOp) (t : TypeId) {k k' : IntKind} {a b : Int} {C : Prop} {r : D} (h : binI op k k' a b = some (C, r) ∨ binR op k k' a b = some (C, r)) (hC : C) :
    ∃ v, (binOp op t (.int k a) (.int k' b)).run P w = .ok v w ∧ DR F w r v := by
  have sh : ∀ n : Nat, n < k.bits → min n k.bits = n := fun n h => by omega
  have nl : ∀ n : Nat, ¬ ((n : Int) < 0) := fun n => by omega
  have fd : ∀ n : Nat, a.fdiv (2 ^ n) = a / 2 ^ n := fun n => Int.fdiv_eq_ediv_of_nonneg a (Int.le_of_lt (Int.pow_pos (by decide)))
  rcases h with h | h
  · cases op <;> simp only [binI] at h
    case shl =>
      cases b with
      | ofNat n =>
        have h : some (n < k.bits ∧ lim k (a * 2 ^ n), D.int k (a * 2 ^ n)) = some (C, r) := by
          simp only at h
          split at h
          · rename_i c hc; rw [pw_eq hc]; exact h
          · exact h
        simp only [Option.some.injEq, Prod.mk.injEq] at h; obtain ⟨rfl, rfl⟩ := h
        exact ex_of (by simp only [DR, D.toValue]) (by simp [binOp, Op.shift, D.toValue, sh n hC.1, wrap_lim hC.2, nl n])
      | negSucc n => cases h
    case shr =>
      cases b with
      | ofNat n =>
        have h : some (n < k.bits, D.int k (a / 2 ^ n)) = some (C, r) := by
          simp only at h
          split at h
          · rename_i c hc; rw [pw_eq hc]; exact h
          · exact h
        simp only [Option.some.injEq, Prod.mk.injEq] at h; obtain ⟨rfl, rfl⟩ := h
        exact ex_of (by simp only [DR, D.toValue]) (by simp [binOp, Op.shift, D.toValue, sh n hC, fd, nl n])
      | negSucc n => cases h
    case andNot => cases h
    all_goals simp only [Option.some.injEq, Prod.mk.injEq] at h; obtain ⟨rfl, rfl⟩ := h
    case add => obtain ⟨rfl, hl⟩ := hC; exact ex_of (by simp only [DR, D.toValue]) (by simp [binOp, Op.intArith, D.toValue, wrap_lim hl])
    case sub => obtain ⟨rfl, hl⟩ := hC; exact ex_of (by simp only [DR, D.toValue]) (by simp [binOp, Op.intArith, D.toValue, wrap_lim hl])
    case mul => obtain ⟨rfl, hl⟩ := hC; exact ex_of (by simp only [DR, D.toValue]) (by simp [binOp, Op.intArith, D.toValue, wrap_lim hl])
    case quo =>
      obtain ⟨rfl, h0, h1, hl⟩ := hC
      have hq : lim k (a / b) := by
        have l1 : 0 ≤ a / b := Int.ediv_nonneg h0 (by omega)
        have l2 : a / b ≤ a := Int.ediv_le_self b h0
        cases k <;> simp only [lim] at hl ⊢ <;> (try exact hl.elim) <;> omega
      exact ex_of (by simp only [DR, D.toValue]) (by simp [binOp, Op.intDiv, show b ≠ 0 by omega, D.toValue, Int.tdiv_eq_ediv_of_nonneg h0, wrap_lim hq])
    case rem =>
      obtain ⟨rfl, h0, h1⟩ := hC
      exact ex_of (by simp only [DR, D.toValue]) (by simp [binOp, Op.intDiv, show b ≠ 0 by omega, D.toValue, Int.tmod_eq_emod_of_nonneg h0])
    case and =>
      obtain ⟨rfl, h0, h1, la, lb⟩ := hC
      have := run_bits (· &&& ·) h0 h1 la lb (fun n x y h _ => Nat.and_lt_two_pow x (by assumption))
      exact ex_of (by simp only [DR, D.toValue]) (by
        simp only [binOp, ne_eq, not_true_eq_false, if_false, Op.intBits, D.toValue]
        rw [BitVec.toNat_and, toNat_ofInt_nonneg h0 (lim_bits la h0), toNat_ofInt_nonneg h1 (lim_bits lb h1), this]; rfl)
    case or =>
      obtain ⟨rfl, h0, h1, la, lb⟩ := hC
      have := run_bits (· ||| ·) h0 h1 la lb (fun n x y h h' => Nat.or_lt_two_pow h h')
      exact ex_of (by simp only [DR, D.toValue]) (by
        simp only [binOp, ne_eq, not_true_eq_false, if_false, Op.intBits, D.toValue]
        rw [BitVec.toNat_or, toNat_ofInt_nonneg h0 (lim_bits la h0), toNat_ofInt_nonneg h1 (lim_bits lb h1), this]; rfl)
    case xor =>
      obtain ⟨rfl, h0, h1, la, lb⟩ := hC
      have := run_bits (· ^^^ ·) h0 h1 la lb (fun n x y h h' => Nat.xor_lt_two_pow h h')
      exact ex_of (by simp only [DR, D.toValue]) (by
        simp only [binOp, ne_eq, not_true_eq_false, if_false, Op.intBits, D.toValue]
        rw [BitVec.toNat_xor, toNat_ofInt_nonneg h0 (lim_bits la h0), toNat_ofInt_nonneg h1 (lim_bits lb h1), this]; rfl)
    all_goals
      subst hC
      refine ex_of (by simp only [DR, D.toValue]) ?_
      simp only [binOp, ne_eq, not_true_eq_false, if_false]
      rfl
  · unfold binR at h
    split at h
    all_goals try (cases h; done)
    all_goals simp only [Option.some.injEq, Prod.mk.injEq] at h; obtain ⟨rfl, rfl⟩ := h
    · rename_i m hm
      have hb : min b.toNat k.bits = b.toNat := by omega
      exact ex_of (by simp only [DR, D.toValue]) (by simp [binOp, Op.shift, D.toValue, Int.not_lt.2 hC.1, hb, wrap_rest _ hm])
    · have hb : min b.toNat k.bits = b.toNat := by omega
      exact ex_of (by simp only [DR, D.toValue]) (by simp [binOp, Op.shift, D.toValue, Int.not_lt.2 hC.1, hb, fd])
    · rename_i m hm
      subst hC; exact ex_of (by simp only [DR, D.toValue]) (by simp [binOp, Op.intArith, D.toValue, wrap_rest _ hm])
    · rename_i m hm
      subst hC; exact ex_of (by simp only [DR, D.toValue]) (by simp [binOp, Op.intArith, D.toValue, wrap_rest _ hm])
    · rename_i m hm
      subst hC; exact ex_of (by simp only [DR, D.toValue]) (by simp [binOp, Op.intArith, D.toValue, wrap_rest _ hm])
    · obtain ⟨rfl, hC⟩ := hC; exact ex_of (by simp only [DR, D.toValue]) (by simp [binOp, Op.intDiv, hC, D.toValue])
    · obtain ⟨rfl, hC⟩ := hC; exact ex_of (by simp only [DR, D.toValue]) (by simp [binOp, Op.intDiv, hC, D.toValue])

theorem bytes_list (l : List UInt8) : (⟨l.toArray⟩ : ByteArray).toList = l := by rw [ByteArray.toList_eq]
theorem str_eq (a b : List UInt8) : ((⟨a.toArray⟩ : ByteArray).toList == (⟨b.toArray⟩ : ByteArray).toList) = decide (a = b) := by
  rw [bytes_list, bytes_list, Bool.eq_iff_iff]; simp

theorem run_bin {P : Program} {F : Nat → Prop} {w : World} {i : BinOp → IntKind → IntKind → Int → Int → Ev D} (hi : i = binI ∨ i = binR) (op : BinOp) (t : TypeId) (x y : Operand) {p q : D} {a b : Value} {C : Prop} {r : D} {dd : TyD} (ht : TyOk P t dd) (hb : boolFits dd p) (hp : DR F w p a) (hq : DR F w q b) (h : D.bin i op p q = some (C, r)) (hC : C) :
    ∃ v, (do eqGuard op t x y a b; binOp op t a b : Sem Value).run P w = .ok v w ∧ DR F w r v := by
  cases p <;> try (simp only [D.bin] at h; cases h; done)
  case int k m =>
    cases q <;> try (simp only [D.bin] at h; cases h; done)
    case int k' n =>
      simp only [DR] at hp hq
      subst hp hq
      have hg : (eqGuard op t x y (.int k m) (.int k' n)).run P w = .ok () w := by
        unfold eqGuard; split <;> rfl
      simp only [Sem.run_bind, hg, Result.andThen_ok]
      refine run_binInt (k := k) (k' := k') op t ?_ hC
      simp only [D.bin] at h
      rcases hi with rfl | rfl
      · exact .inl h
      · exact .inr h
  case str s =>
    cases q <;> try (simp only [D.bin] at h; cases h; done)
    case str u =>
      simp only [DR] at hp hq
      subst hp hq
      have hg : (eqGuard op t x y (.string ⟨s.toArray⟩) (.string ⟨u.toArray⟩)).run P w = .ok () w := by
        unfold eqGuard; split <;> rfl
      simp only [Sem.run_bind, hg, Result.andThen_ok]
      cases op <;> simp only [D.bin] at h <;> (try (cases h; done)) <;> simp only [Option.some.injEq, Prod.mk.injEq] at h <;> obtain ⟨rfl, rfl⟩ := h
      case add =>
        refine ex_of (by simp only [DR, D.toValue]) ?_
        have hs : ((⟨s.toArray⟩ : ByteArray).size + (⟨u.toArray⟩ : ByteArray).size) = s.length + u.length := by simp [ByteArray.size]
        simp only [binOp, Op.stringOp, hs]
        rw [if_neg (by omega)]
        have : (⟨s.toArray⟩ ++ ⟨u.toArray⟩ : ByteArray) = ⟨(s ++ u).toArray⟩ := by
          apply ByteArray.ext; simp
        rw [this]; rfl
      all_goals refine ex_of (by simp only [DR, D.toValue]) ?_
      · simp only [binOp, Op.stringOp, str_eq]; rfl
      · simp only [binOp, Op.stringOp, str_eq]; rfl
      · simp only [binOp, Op.stringOp, bytes_list]; rfl
  case bool s =>
    cases q <;> try (simp only [D.bin] at h; cases h; done)
    case bool u =>
      simp only [DR] at hp hq
      subst hp hq
      have hg : (eqGuard op t x y (.bool s) (.bool u)).run P w = .ok () w := by
        unfold eqGuard; split <;> rfl
      simp only [Sem.run_bind, hg, Result.andThen_ok]
      have hd : dd.desc = .bool := by
        revert hb; simp only [boolFits]; cases dd.desc <;> simp [TypeDesc.isBool]
      have hu := ht.runU w
      rw [hd] at hu
      cases op <;> simp only [D.bin] at h <;> (try (cases h; done)) <;> simp only [Option.some.injEq, Prod.mk.injEq] at h <;> obtain ⟨rfl, rfl⟩ := h
      all_goals exact ex_of (by simp only [DR, D.toValue]) (by simp only [binOp, Sem.run_bind, run_equal_bool hu, Result.andThen_ok]; rfl)

theorem run_un {P : Program} {F : Nat → Prop} {w : World} (op : UnOp) {p : D} {a : Value} {C : Prop} {r : D} (hp : DR F w p a) (h : D.un op p = some (C, r) ∨ D.unR op p = some (C, r)) (hC : C) : ∃ v, (Op.unary op a).run P w = .ok v w ∧ DR F w r v := by
  rcases h with h | h
  · cases p <;> try (simp only [D.un] at h; cases h; done)
    case int k m =>
      simp only [DR] at hp; subst hp
      cases op <;> simp only [D.un] at h <;> (try (cases h; done))
      · simp only [Option.some.injEq, Prod.mk.injEq] at h; obtain ⟨rfl, rfl⟩ := h
        refine ⟨.int k (k.wrap (0 - m)), rfl, ?_⟩
        rw [Int.zero_sub, wrap_lim hC]; simp only [DR]
      · split at h <;> (try (cases h; done))
        rename_i c hm
        simp only [Option.some.injEq, Prod.mk.injEq] at h; obtain ⟨rfl, rfl⟩ := h
        obtain ⟨h0, h1⟩ := hC
        have key : ∀ k : IntKind, ∀ c : Int, rest? k = some c → lim k m → (Op.unary .xor (.int k m)).run P w = .ok (.int k (((c - 1).toNat ^^^ m.toNat : Nat) : Int)) w := fun k c hm h1 => by
          have hl : lim k (c - 1) ∧ 0 ≤ c - 1 ∧ k.signed = false ∧ k.max = c - 1 := by
            cases k <;> simp only [rest?] at hm <;> (try (cases hm; done)) <;> cases hm <;> refine ⟨?_, by decide, rfl, rfl⟩ <;> simp only [lim] <;> decide
          obtain ⟨l1, l2, l3, l4⟩ := hl
          simp only [Op.unary, l3, l4, Bool.false_eq_true, if_false, Op.intBits]
          have := run_bits (· ^^^ ·) l2 h0 l1 h1 (fun n x y h h' => Nat.xor_lt_two_pow h h')
          rw [BitVec.toNat_xor, toNat_ofInt_nonneg l2 (lim_bits l1 l2), toNat_ofInt_nonneg h0 (lim_bits h1 h0), this]; rfl
        exact ⟨_, key k c hm h1, by simp only [DR]⟩
    case bool b =>
      simp only [DR] at hp; subst hp
      cases op <;> simp only [D.un] at h <;> (try (cases h; done)) <;> simp only [Option.some.injEq, Prod.mk.injEq] at h <;> obtain ⟨rfl, rfl⟩ := h
      exact ⟨_, by simp [Op.unary]; rfl, by simp only [DR]⟩
  · cases p <;> try (simp only [D.unR] at h; cases h; done)
    case int k m =>
      simp only [DR] at hp; subst hp
      simp only [D.unR] at h
      split at h <;> (try (cases h; done)) <;> simp only [Option.some.injEq, Prod.mk.injEq] at h <;> obtain ⟨rfl, rfl⟩ := h
      · rename_i c hm
        refine ⟨.int k (k.wrap (0 - m)), rfl, ?_⟩
        rw [Int.zero_sub, wrap_rest _ hm]; simp only [DR]
      · refine ⟨.int k (k.wrap (0 - m)), rfl, ?_⟩
        rw [Int.zero_sub]; simp only [DR]
end Go.Vw

/-
  The operations that leave memory as it is, on abstract values. Conditions: the table of types is the program's.
-/
namespace Go.Vw
open Go.RowKit

def segD : List D → Nat → Nat → Option (List D)
  | _, 0, 0 => some []
  | c :: cs, 0, n + 1 => match segD cs 0 n with | some r => some (c :: r) | none => none
  | _ :: cs, o + 1, n => segD cs o n
  | [], _, _ => none
def segV : List V → Nat → Nat → Option (List V)
  | _, 0, 0 => some []
  | c :: cs, 0, n + 1 => match segV cs 0 n with | some r => some (c :: r) | none => none
  | _ :: cs, o + 1, n => segV cs o n
  | [], _, _ => none

theorem segD_spec : ∀ {cs : List D} {o n : Nat} {r : List D}, segD cs o n = some r → r.length = n ∧ ∀ i, i < n → cs[o + i]? = r[i]?
  | cs, 0, 0, r, h => by simp [segD] at h; subst h; simp
  | c :: cs, 0, n + 1, r, h => by
    simp only [segD] at h
    split at h
    · rename_i r' h'
      simp only [Option.some.injEq] at h; subst h
      obtain ⟨h1, h2⟩ := segD_spec h'
      refine ⟨by simp [h1], fun i hi => ?_⟩
      cases i with
      | zero => simp
      | succ i => have := h2 i (by omega); simp only [Nat.zero_add, List.getElem?_cons_succ] at this ⊢; exact this
    · cases h
  | c :: cs, o + 1, n, r, h => by
    simp only [segD] at h
    obtain ⟨h1, h2⟩ := segD_spec h
    refine ⟨h1, fun i hi => ?_⟩
    rw [show o + 1 + i = (o + i) + 1 by omega, List.getElem?_cons_succ]
    exact h2 i hi
  | [], 0, n + 1, r, h => by simp [segD] at h
  | [], o + 1, n, r, h => by simp [segD] at h
theorem segV_spec : ∀ {cs : List V} {o n : Nat} {r : List V}, segV cs o n = some r → r.length = n ∧ ∀ i, i < n → cs[o + i]? = r[i]?
  | cs, 0, 0, r, h => by simp [segV] at h; subst h; simp
  | c :: cs, 0, n + 1, r, h => by
    simp only [segV] at h
    split at h
    · rename_i r' h'
      simp only [Option.some.injEq] at h; subst h
      obtain ⟨h1, h2⟩ := segV_spec h'
      refine ⟨by simp [h1], fun i hi => ?_⟩
      cases i with
      | zero => simp
      | succ i => have := h2 i (by omega); simp only [Nat.zero_add, List.getElem?_cons_succ] at this ⊢; exact this
    · cases h
  | c :: cs, o + 1, n, r, h => by
    simp only [segV] at h
    obtain ⟨h1, h2⟩ := segV_spec h
    refine ⟨h1, fun i hi => ?_⟩
    rw [show o + 1 + i = (o + i) + 1 by omega, List.getElem?_cons_succ]
    exact h2 i hi
  | [], 0, n + 1, r, h => by simp [segV] at h
  | [], o + 1, n, r, h => by simp [segV] at h

def headD : List D → Nat → Option D
  | c :: _, 0 => some c
  | _ :: cs, o + 1 => headD cs o
  | [], _ => none
def headV : List V → Nat → Option V
  | c :: _, 0 => some c
  | _ :: cs, o + 1 => headV cs o
  | [], _ => none
theorem headD_spec : ∀ {cs : List D} {o : Nat}, headD cs o = cs[o]?
  | [], o => by simp [headD]
  | c :: cs, 0 => by simp [headD]
  | c :: cs, o + 1 => by simp [headD, headD_spec]
theorem headV_spec : ∀ {cs : List V} {o : Nat}, headV cs o = cs[o]?
  | [], o => by simp [headV]
  | c :: cs, 0 => by simp [headV]
  | c :: cs, o + 1 => by simp [headV, headV_spec]

def takeD (dd : TyD) (cs : List D) (o : Nat) : Option D :=
  match TypeDesc.many dd.desc with
  | true => match Nat.beq o 0 && Nat.beq dd.size cs.length with
    | true => some (.agg cs)
    | false => match segD cs o dd.size with | some r => some (.agg r) | none => none
  | false => headD cs o
def takeV (dd : TyD) (cs : List V) (o : Nat) : Option V :=
  match TypeDesc.many dd.desc with
  | true => match segV cs o dd.size with | some r => some (mkAgg r) | none => none
  | false => headV cs o

def natOf (m : Bool) (n : Int) : Ev (ULift Nat) :=
  match m with
  | true => match n with | .ofNat j => some (True, ⟨j⟩) | .negSucc _ => none
  | false => some (0 ≤ n, ⟨n.toNat⟩)
theorem natOf_spec {m : Bool} {n : Int} {C : Prop} {j : ULift Nat} (h : natOf m n = some (C, j)) (hC : C) : 0 ≤ n ∧ n.toNat = j.down := by
  cases m with
  | true => cases n <;> simp only [natOf] at h <;> cases h; exact ⟨Int.natCast_nonneg _, rfl⟩
  | false => simp only [natOf, Option.some.injEq, Prod.mk.injEq] at h; obtain ⟨rfl, rfl⟩ := h; exact ⟨hC, rfl⟩

def plus0 : Nat → Nat → Nat
  | 0, j => j
  | o + 1, j => o + 1 + j
theorem plus0_eq (o j : Nat) : plus0 o j = o + j := by cases o <;> simp [plus0]

def intOfV : V → Option Int
  | .d (.int _ n) => some n
  | _ => none

def fillD (place : Nat → Option (Nat × Nat)) : List V → List (Nat × V) → Option (List V)
  | cells, [] => some cells
  | cells, (i, v) :: rest =>
    match place i with
    | none => none
    | some (off, size) => match v.storable && Nat.beq v.cells.length size && Nat.ble (off + size) cells.length with
      | true => fillD place (cells.take off ++ (v.cells ++ cells.drop (off + size))) rest
      | false => none

def structPlaces (T : TypeId → Option TyD) (fs : Array Field) (i : Nat) : Option (Nat × Nat) :=
  match fs[i]? with
  | some f => match T f.type with | some fd => some (f.offset, fd.size) | none => none
  | none => none

def allTyped (T : TypeId → Option TyD) (fs : Array Field) : Bool := fs.toList.all fun f => (T f.type).isSome

def openL : List V → (List V → Ev V) → Ev V
  | [], K => K []
  | c :: r, K => openL r fun r' => K (c :: r')
theorem openL_eq : ∀ (l : List V) (K : List V → Ev V), openL l K = K l
  | [], K => rfl
  | c :: r, K => by simp only [openL]; rw [openL_eq r]

def sliceQ (m : Bool) (sz : Nat) (x : V) (lo hi mx : Option Int) : Ev V :=
  match x with
  | .d (.sl sz' e z l) => match Nat.beq sz sz' with
    | false => none
    | true => match lo, hi, mx with
      | none, none, none => some (True, .d (.sl sz' e z l))
      | none, some h, none => match natOf m h with
        | some (C, ⟨h⟩) => some (C ∧ h ≤ l.length, .d (.sl sz' e z (l.take h)))
        | none => none
      | none, some h, some g => match natOf m h with
        | some (C, ⟨h'⟩) => some (C ∧ h ≤ g ∧ g ≤ l.length, .d (.sl sz' e z (l.take h')))
        | none => none
      | some n, none, none => match natOf m n with
        | some (C, ⟨n⟩) => some (C ∧ n ≤ l.length, .d (.sl sz' e z (l.drop n)))
        | none => none
      | some n, some h, none => match natOf m n, natOf m h with
        | some (C, ⟨n⟩), some (C', ⟨h⟩) => some (C ∧ C' ∧ n ≤ h ∧ h ≤ l.length, .d (.sl sz' e z ((l.drop n).take (h - n))))
        | _, _ => none
      | _, _, _ => none
  | .own k o n ty sz' => match Nat.beq sz sz' with
    | false => none
    | true => match lo, hi, mx with
      | none, none, none => some (True, .own k o n ty sz')
      | none, some h, none => match natOf m h with
        | some (C, ⟨h⟩) => some (C ∧ h ≤ n, .own k o h ty sz')
        | none => none
      | some a, none, none => match natOf m a with
        | some (C, ⟨a⟩) => some (C ∧ a < n, .own k (plus0 o a) (n - a) ty sz')
        | none => none
      | some a, some h, none => match natOf m a, natOf m h with
        | some (C, ⟨a⟩), some (C', ⟨h⟩) => some (C ∧ C' ∧ a < h ∧ h ≤ n, .own k (plus0 o a) (h - a) ty sz')
        | _, _ => none
      | _, _, _ => none
  | .d .nils => match lo, hi, mx with
      | none, none, none => some (True, .d .nils)
      | none, some h, none => some (h = 0, .d .nils)
      | _, _, _ => none
  | _ => none

def strQ (m : Bool) (b : List UInt8) (lo hi : Option Int) : Ev V :=
  match lo, hi with
  | none, none => some (True, .d (.str b))
  | some n, none => match natOf m n with | some (C, ⟨n⟩) => some (C ∧ n ≤ b.length, .d (.str (b.drop n))) | none => none
  | none, some h => match natOf m h with | some (C, ⟨h⟩) => some (C ∧ h ≤ b.length, .d (.str (b.take h))) | none => none
  | some n, some h => match natOf m n, natOf m h with
    | some (C, ⟨n⟩), some (C', ⟨h⟩) => some (C ∧ C' ∧ n ≤ h ∧ h ≤ b.length, .d (.str ((b.drop n).take (h - n))))
    | _, _ => none

def optI (s : St) : Option Operand → Option (Option Int)
  | none => some none
  | some y => match intOfV (s.opd y) with | some n => some (some n) | none => none

def V.one : V → Bool
  | .d (.agg _) => false
  | .agg _ => false
  | x => x.storable

def evalQ (T : TypeId → Option TyD) (m : Bool) (s : St) : Op → Ev V
  | .move x => some (True, s.opd x)
  | .assign x => some (True, s.opd x)
  | .pick c a b => match s.opd c with
    | .d (.bool t) => match m with
      | true => some (True, bif t then s.opd a else s.opd b)
      | false => match s.opd a, s.opd b with | .d (.bool u), .d (.bool v) => some (True, .d (.bool (bif t then u else v))) | _, _ => none
    | _ => none
  | .binOp op xt x y _ => match s.opd x, s.opd y, T xt with
    | .d a, .d b, some dd => match D.bin (bif m then binI else binR) op a b with | some (C, r) => some (C ∧ boolFits dd a, .d r) | none => none
    | _, _, _ => none
  | .unOp op _ x => match s.opd x with
    | .d a => match (bif m then D.un op a else D.unR op a) with | some (C, r) => some (C, .d r) | none => none
    | _ => none
  | .convert src dst x => match T src, T dst, s.opd x with
    | some _, some dd, .d (.int _ n) => match dd.desc with
      | .int k => match m, rest? k with
        | true, _ => some (lim k n, .d (.int k n))
        | false, some c => some (True, .d (.int k (n % c)))
        | false, none => some (True, .d (.int k (k.wrap n)))
      | _ => none
    | some _, some dd, .d (.str b) => match dd.desc with | .string => some (True, .d (.str b)) | _ => none
    | _, _, _ => none
  | .field t x f => match T t with
    | some td => match td.desc with
      | .struct fs => match fs[f]? with
        | some fd => match T fd.type with
          | some dd => match s.opd x with
            | .d (.agg cs) => match takeD dd cs fd.offset with | some y => some (True, .d y) | none => none
            | .agg cs => match takeV dd cs fd.offset with | some y => some (True, y) | none => none
            | _ => none
          | none => none
        | none => none
      | _ => none
    | none => none
  | .fieldAddr t x f => match T t with
    | some td => match td.desc with
      | .struct fs => match fs[f]? with
        | some fd => match T fd.type with
          | some dd => match Nat.beq dd.size 0 with
            | true => none
            | false => match s.opd x with
              | .ptr k o => some (True, .ptr k (plus0 o fd.offset))
              | .eptr k sz i o => some (True, .eptr k sz i (plus0 o fd.offset))
              | .d (.ptr cs o) => some (True, .d (.ptr cs (plus0 o fd.offset)))
              | _ => none
          | none => none
        | none => none
      | _ => none
    | none => none
  | .indexAddr t x i => match T t, intOfV (s.opd i) with
    | some td, some n => match td.desc with
      | .slice e => match T e, natOf m n with
        | some ed, some (C, ⟨j⟩) => match s.opd x with
          | .d (.sl sz e z l) => match Nat.beq sz ed.size with
            | true => some (C ∧ j < l.length, .d (.ptr (e (l.getD j z)) 0))
            | false => none
          | .own k o len _ sz => match Nat.beq sz ed.size with
            | true => match o with
              | 0 => some (C ∧ j < len, .eptr k sz j 0)
              | o' + 1 => some (C ∧ j < len, .eptr k sz (plus0 (o' + 1) j) 0)
            | false => none
          | _ => none
        | _, _ => none
      | _ => none
    | _, _ => none
  | .index t x i => match T t, intOfV (s.opd i) with
    | some td, some n => match natOf m n with
      | some (C, ⟨j⟩) => match td.desc, s.opd x with
        | .string, .d (.str b) => some (C ∧ j < b.length, .d (.int .u8 (b.getD j 0).toNat))
        | .array len e, .d (.agg cs) => match T e with
          | some ed => match takeD ed cs (j * ed.size) with | some y => some (C ∧ j < len, .d y) | none => none
          | none => none
        | _, _ => none
      | none => none
    | _, _ => none
  | .load t x => match T t, s.opd x with
    | some td, .ptr k o => match s.blk k with
      | some (.box _ cs) => match takeV td cs o with | some y => some (True, y) | none => none
      | _ => none
    | some td, .eptr k sz i o => match s.blk k with
      | some (.data _ sz' e z l) => match Nat.beq sz sz' with
        | true => match takeD td (e (l.getD i z)) o with | some y => some (i < l.length, .d y) | none => none
        | false => none
      | some (.hole _ sz' e z l i' v) => match Nat.beq sz sz' with
        | true => match m with
          | true => match o, TypeDesc.many td.desc with
            | 0, false => some (i = i', v)
            | _, _ => none
          | false => match takeD td (e (l.getD i z)) o with | some y => some (i < l.length ∧ i ≠ i', .d y) | none => none
        | false => none
      | _ => none
    | some td, .d (.ptr cs o) => match takeD td cs o with | some y => some (True, .d y) | none => none
    | _, _ => none
  | .extract x i => match s.opd x with
    | .d (.tup cs) => match headD cs i with | some c => some (True, .d c) | none => none
    | .tup cs => match headV cs i with | some c => some (True, c) | none => none
    | _ => none
  | .slice t x lo hi mx => match T t with
    | some td => match td.desc with
      | .slice e => match T e with
        | some ed => match optI s lo, optI s hi, optI s mx with
          | some l, some h, some g => sliceQ m ed.size (s.opd x) l h g
          | _, _, _ => none
        | none => none
      | .string => match s.opd x, optI s lo, optI s hi, mx with
        | .d (.str b), some l, some h, none => strQ m b l h
        | _, _, _, _ => none
      | _ => none
    | none => none
  | .nilCheck x => match s.opd x with
    | .ptr k o => some (True, .ptr k o)
    | .eptr k sz i o => some (True, .eptr k sz i o)
    | .d (.ptr cs o) => some (True, .d (.ptr cs o))
    | _ => none
  | .build t parts => match T t with
    | some td => match td.desc with
      | .struct fs => match allTyped T fs, D.ofV td.zero with
        | true, .agg z => match fillD (structPlaces T fs) (z.map V.d) (parts.toList.map fun p => (p.1, s.opd p.2)) with
          | some cells => openL cells fun l => some (True, mkAgg l)
          | none => none
        | _, _ => none
      | _ => none
    | none => none
  | .makeFunc (.func f) first captured => match first.toList with
    | [] => match allD (captured.toList.map s.opd) with
      | some ds => match ds.all fun d => (V.d d).one with
        | true => some (True, .d (.fn f ds))
        | false => none
      | none => match (captured.toList.map s.opd).all V.one with
        | true => openL (captured.toList.map s.opd) fun l => some (True, .fn f l)
        | false => none
    | _ => none
  | .call c => match c.callee, c.args.toList, c.argTypes[0]? with
    | .builtin .len, [x], some t => match T t, s.opd x with
      | some td, .d (.str b) => match td.desc with | .string => some (True, .d (.int .i64 b.length)) | _ => none
      | some td, .d (.sl _ _ _ l) => match td.desc with | .slice _ => some (True, .d (.int .i64 l.length)) | _ => none
      | some td, .d .nils => match td.desc with | .slice _ => some (True, .d (.int .i64 0)) | _ => none
      | some td, .own _ _ n _ _ => match td.desc with | .slice _ => some (True, .d (.int .i64 n)) | _ => none
      | _, _ => none
    | .builtin .max, [x, y], _ => match s.opd x, s.opd y with
      | .d (.int k a), .d (.int _ b) => some (True, .d (.int k (max a b)))
      | _, _ => none
    | .builtin .min, [x, y], _ => match s.opd x, s.opd y with
      | .d (.int k a), .d (.int _ b) => some (True, .d (.int k (min a b)))
      | _, _ => none
    | _, _, _ => none
  | _ => none
end Go.Vw

/-
  What evalQ says of an operation is what the machine does. Conditions: the table of types is the program's.
-/
namespace Go.Vw
open Go.RowKit

theorem add_plain (b o j : Nat) : (⟨b, o, none⟩ : Addr).add j = ⟨b, o + j, none⟩ := by
  unfold Addr.add; split <;> simp_all

theorem lt_of_heap {w : World} {b : Nat} {o : Obj} (h : w.heap[b]? = some o) : b < w.heap.size := (Array.getElem?_eq_some_iff.1 h).1

theorem run_loadMany {P : Program} {w : World} {t : TypeId} {dd : TyD} (ht : TyOk P t dd) (hm : TypeDesc.many dd.desc = true) {b o : Nat} {arr : Array Value} {ty : TypeId} {fz : Nat × Nat} (hh : w.heap[b]? = some (.cells arr ty fz)) (us : List Value) (hl : us.length = dd.size) (hu : ∀ i, i < dd.size → arr[o + i]? = us[i]?) :
    (loadVar t ⟨b, o, none⟩).run P w = .ok (.agg us.toArray) w := by
  have := run_loadCells_list (P := P) w ⟨b, o, none⟩ us (fun j v hv => by
    have hj : j < us.length := (List.getElem?_eq_some_iff.1 hv).1
    rw [add_plain]
    have := hu j (by omega)
    simp [World.cell?, hh, this, hv])
  rw [hl] at this
  simp only [loadVar, Sem.run_bind, ht.runA, hm, Result.andThen_ok, if_true, ht.runS, this]
  rfl
theorem run_loadOne {P : Program} {w : World} {t : TypeId} {dd : TyD} (ht : TyOk P t dd) (hm : TypeDesc.many dd.desc = false) {b o : Nat} {arr : Array Value} {ty : TypeId} {fz : Nat × Nat} (hh : w.heap[b]? = some (.cells arr ty fz)) {v : Value} (hv : arr[o]? = some v) :
    (loadVar t ⟨b, o, none⟩).run P w = .ok v w := by
  simp only [loadVar, Sem.run_bind, ht.runA, hm, Result.andThen_ok]
  simp [World.cell?, hh, hv]

theorem row_vals {io : Keys} {F : Nat → Prop} {w : World} {g : Nat → Option Value} {off : Nat} : ∀ {r : List V}, VRA io F w g off r → ∃ us : List Value, us.length = r.length ∧ (∀ i, i < r.length → g (off + i) = us[i]?) ∧ VRA io F w (fun i => us[i]?) 0 r
  | [], _ => ⟨[], rfl, fun i hi => by simp at hi, by simp [VRA]⟩
  | c :: r, h => by
    simp only [VRA] at h
    obtain ⟨⟨v, h1, h2, h3⟩, h4⟩ := h
    obtain ⟨us, g1, g2, g3⟩ := row_vals h4
    refine ⟨v :: us, by simp [g1], fun i hi => ?_, ?_⟩
    · cases i with
      | zero => simpa using h1
      | succ i =>
        have := g2 i (by simpa using hi)
        rw [show off + (i + 1) = off + 1 + i by omega]; simpa using this
    · simp only [VRA]
      refine ⟨⟨v, by simp, h2, h3⟩, ?_⟩
      exact VRA.congr (fun i hi => by simp; rw [Nat.add_comm 1 i]; simp) g3

theorem VRA.seg {io : Keys} {F : Nat → Prop} {w : World} {g : Nat → Option Value} {off o n : Nat} {cs r : List V} (h : VRA io F w g off cs) (e : segV cs o n = some r) : VRA io F w g (off + o) r := by
  obtain ⟨h1, h2⟩ := segV_spec e
  rw [VRA_iff] at h ⊢
  intro i c hi
  have hlt : i < n := h1 ▸ (List.getElem?_eq_some_iff.1 hi).1
  rw [Nat.add_assoc]
  exact h (o + i) c ((h2 i hlt).trans hi)

theorem takeV_sound {P : Program} {io : Keys} {F : Nat → Prop} {w : World} {t : TypeId} {dd : TyD} (ht : TyOk P t dd) {b off o : Nat} {arr : Array Value} {ty : TypeId} {fz : Nat × Nat} {cs : List V} (hh : w.heap[b]? = some (.cells arr ty fz)) (hc : VRA io F w (fun j => arr[j]?) off cs) {y : V} (e : takeV dd cs o = some y) :
    ∃ v, (loadVar t ⟨b, off + o, none⟩).run P w = .ok v w ∧ VR io F w y v := by
  unfold takeV at e
  split at e
  · rename_i hm
    split at e
    · rename_i r hr
      simp only [Option.some.injEq] at e; subst e
      obtain ⟨us, g1, g2, g3⟩ := row_vals (VRA.seg hc hr)
      have hl : us.length = dd.size := g1.trans (segV_spec hr).1
      refine ⟨.agg us.toArray, run_loadMany ht hm hh us hl (fun i hi => g2 i (by rw [(segV_spec hr).1]; exact hi)), VR.mkAgg (by simp [g1]) ?_⟩
      exact VRA.congr (fun i _ => by simp) g3
    · cases e
  · rename_i hm
    rw [headV_spec] at e
    obtain ⟨v, h1, _, h3⟩ := VRA_iff.1 hc o y e
    exact ⟨v, run_loadOne ht hm hh h1, h3⟩

theorem segV_map : ∀ (cs : List D) (o n : Nat), segV (cs.map V.d) o n = (segD cs o n).map (·.map V.d)
  | cs, 0, 0 => by simp [segV, segD]
  | c :: cs, 0, n + 1 => by
    simp only [List.map_cons, segV, segD, segV_map cs 0 n]
    cases segD cs 0 n <;> simp
  | c :: cs, o + 1, n => by simp only [List.map_cons, segV, segD, segV_map cs o n]
  | [], 0, n + 1 => by simp [segV, segD]
  | [], o + 1, n => by simp [segV, segD]
theorem headV_map (cs : List D) (o : Nat) : headV (cs.map V.d) o = (headD cs o).map V.d := by
  rw [headV_spec, headD_spec, List.getElem?_map]
theorem allD_of : ∀ ds : List D, allD (ds.map V.d) = some ds
  | [] => rfl
  | x :: xs => by simp [allD, allD_of xs]
theorem mkAgg_of (ds : List D) : mkAgg (ds.map V.d) = .d (.agg ds) := by simp [mkAgg, allD_of]
theorem segD_all (cs : List D) : segD cs 0 cs.length = some cs := by
  induction cs with
  | nil => rfl
  | cons c cs ih => simp [segD, ih]
theorem takeV_map (dd : TyD) (cs : List D) (o : Nat) {y : D} (h : takeD dd cs o = some y) : takeV dd (cs.map V.d) o = some (.d y) := by
  unfold takeD at h
  unfold takeV
  split at h
  · rename_i hm
    split at h
    · rename_i hb
      simp only [Bool.and_eq_true] at hb
      have h1 := Nat.eq_of_beq_eq_true hb.1
      have h2 := Nat.eq_of_beq_eq_true hb.2
      subst h1
      simp only [Option.some.injEq] at h; subst h
      rw [h2, segV_map, segD_all]
      simp [mkAgg_of]
    · split at h
      · rename_i r hr
        simp only [Option.some.injEq] at h; subst h
        rw [segV_map, hr]
        simp [mkAgg_of]
      · cases h
  · rename_i hm
    rw [headV_map, h]; rfl

theorem takeD_sound {P : Program} {F : Nat → Prop} {w : World} {t : TypeId} {dd : TyD} (ht : TyOk P t dd) {b off o : Nat} {arr : Array Value} {ty : TypeId} {fz : Nat × Nat} {cs : List D} (hh : w.heap[b]? = some (.cells arr ty fz)) (hc : DRA F w (fun j => arr[j]?) off cs) {y : D} (e : takeD dd cs o = some y) :
    ∃ v, (loadVar t ⟨b, off + o, none⟩).run P w = .ok v w ∧ DR F w y v := by
  obtain ⟨v, h1, h2⟩ := takeV_sound (io := ⟨fun _ => none, fun _ => 0⟩) ht hh (DRA.toV hc) (takeV_map dd cs o e)
  exact ⟨v, h1, by simpa only [VR] using h2⟩

theorem partV_sound {P : Program} {io : Keys} {F : Nat → Prop} {w : World} {t : TypeId} {dd : TyD} (ht : TyOk P t dd) {o : Nat} {arr : Array Value} {cs : List V} (hl : arr.size = cs.length) (hc : VRA io F w (fun j => arr[j]?) 0 cs) {y : V} (e : takeV dd cs o = some y) :
    ∃ v, (part t arr o).run P w = .ok v w ∧ VR io F w y v := by
  unfold takeV at e
  split at e
  · rename_i hm
    split at e
    · rename_i r hr
      simp only [Option.some.injEq] at e; subst e
      obtain ⟨s1, s2⟩ := segV_spec hr
      refine ⟨.agg (arr.extract o (o + dd.size)), ?_, ?_⟩
      · simp only [part, Sem.run_bind, ht.runA, hm, Result.andThen_ok, if_true, ht.runS]; rfl
      · have hle : o + dd.size ≤ arr.size ∨ dd.size = 0 := by
          by_cases hz : dd.size = 0
          · exact .inr hz
          · left
            have := s2 (dd.size - 1) (by omega)
            rw [List.getElem?_eq_getElem (show dd.size - 1 < r.length by omega)] at this
            have := (List.getElem?_eq_some_iff.1 this).1
            omega
        refine VR.mkAgg (by simp; omega) ?_
        have hs := VRA.seg hc hr
        refine VRA.congr (fun i hi => ?_) hs
        rw [Array.getElem?_extract]
        simp; intro h; omega
    · cases e
  · rename_i hm
    rw [headV_spec] at e
    obtain ⟨v, h1, _, h3⟩ := VRA_iff.1 hc o y e
    refine ⟨v, ?_, h3⟩
    simp only [Nat.zero_add] at h1
    simp only [part, Sem.run_bind, ht.runA, hm, Result.andThen_ok]
    simp [h1]
theorem partD_sound {P : Program} {F : Nat → Prop} {w : World} {t : TypeId} {dd : TyD} (ht : TyOk P t dd) {o : Nat} {arr : Array Value} {cs : List D} (hl : arr.size = cs.length) (hc : DRA F w (fun j => arr[j]?) 0 cs) {y : D} (e : takeD dd cs o = some y) :
    ∃ v, (part t arr o).run P w = .ok v w ∧ DR F w y v := by
  obtain ⟨v, h1, h2⟩ := partV_sound (io := ⟨fun _ => none, fun _ => 0⟩) ht (by simpa using hl) (DRA.toV hc) (takeV_map dd cs o e)
  exact ⟨v, h1, by simpa only [VR] using h2⟩

theorem intOfV_sound {io : Keys} {F : Nat → Prop} {w : World} {x : V} {n : Int} {v : Value} (h : intOfV x = some n) (hx : VR io F w x v) : ∃ k, v = .int k n := by
  unfold intOfV at h
  split at h
  · simp at h; subst h; simp only [VR, DR] at hx; exact ⟨_, hx⟩
  · cases h
end Go.Vw

/-
  What evalQ says of an operation is what the machine does: all operations. Conditions: the table of types is the program's.
-/
namespace Go.Vw
open Go.RowKit

theorem run_sliceBound {P : Program} {w : World} {k : IntKind} {n : Int} {y : Nat} (code : BoundsCode) (h0 : 0 ≤ n) (h1 : n ≤ y) : (Instr.sliceBound (.int k n) y code).run P w = .ok n.toNat w := by
  simp only [Instr.sliceBound, asIntOf, Sem.run_bind, Sem.run_pure, Result.andThen_ok]
  rw [if_pos ⟨h0, h1⟩]; rfl

theorem run_sliceBounds {P : Program} {w : World} (isS : Bool) (n cap : Nat) (lo hi mx : Option Value) (l h m : Int) (hlo : (lo = none ∧ l = 0) ∨ ∃ k, lo = some (.int k l)) (hhi : (hi = none ∧ h = n ∧ mx = none) ∨ ∃ k, hi = some (.int k h)) (hmx : (mx = none ∧ m = cap) ∨ ∃ k, mx = some (.int k m)) (h0 : 0 ≤ l) (h1 : l ≤ h) (h2 : h ≤ m) (h3 : m ≤ cap) :
    (Instr.sliceBounds isS n cap lo hi mx).run P w = .ok (l.toNat, h.toNat, m.toNat) w := by
  have e1 : ∀ code, ∀ k, (Instr.sliceBound (.int k m) cap code).run P w = .ok m.toNat w := fun code k => run_sliceBound code (by omega) h3
  have e2 : ∀ code, ∀ k, (Instr.sliceBound (.int k h) m.toNat code).run P w = .ok h.toNat w := fun code k => run_sliceBound code (by omega) (by omega)
  have e3 : ∀ code, ∀ k, (Instr.sliceBound (.int k l) h.toNat code).run P w = .ok l.toNat w := fun code k => run_sliceBound code (by omega) (by omega)
  rcases hmx with ⟨rfl, rfl⟩ | ⟨km, rfl⟩
  · have hc : ((cap : Nat) : Int).toNat = cap := by omega
    rw [hc] at e2 ⊢
    rcases hhi with ⟨rfl, rfl, _⟩ | ⟨kh, rfl⟩
    · have hn : ((n : Nat) : Int).toNat = n := by omega
      rw [hn] at e3 ⊢
      rcases hlo with ⟨rfl, rfl⟩ | ⟨kl, rfl⟩
      · simp [Instr.sliceBounds]
      · simp [Instr.sliceBounds, e3]
    · rcases hlo with ⟨rfl, rfl⟩ | ⟨kl, rfl⟩
      · simp [Instr.sliceBounds, e2]
      · simp [Instr.sliceBounds, e2, e3]
  · rcases hhi with ⟨_, _, h⟩ | ⟨kh, rfl⟩
    · cases h
    · rcases hlo with ⟨rfl, rfl⟩ | ⟨kl, rfl⟩
      · simp [Instr.sliceBounds, e1, e2]
      · simp [Instr.sliceBounds, e1, e2, e3]

theorem add_if (a : Addr) (h : a.spot = none) (m l n : Nat) : (if m = l then (some a : Option Addr) else (some a : Option Addr).map (·.add n)) = some ⟨a.block, if m = l then a.off else a.off + n, none⟩ := by
  obtain ⟨b, o, sp⟩ := a
  simp at h; subst h
  split
  · rfl
  · simp [add_plain]

theorem run_sliceSl {P : Program} {F : Nat → Prop} {w : World} {t e : TypeId} {td ed : TyD} (ht : TyOk P t td) (hd : td.desc = .slice e) (he : TyOk P e ed) {α : Type} {en : α → List D} {z : α} {ls : List α} {v : Value} (hx : DR F w (.sl ed.size en z ls) v) (lo hi mx : Option Value) (l h : Int) (m : Option Int) (hlo : (lo = none ∧ l = 0) ∨ ∃ k, lo = some (.int k l)) (hhi : (hi = none ∧ h = ls.length ∧ mx = none) ∨ ∃ k, hi = some (.int k h)) (hmx : (mx = none ∧ m = none) ∨ ∃ k i, mx = some (.int k i) ∧ m = some i ∧ h ≤ i ∧ i ≤ ls.length) (h0 : 0 ≤ l) (h1 : l ≤ h) (h2 : h ≤ ls.length) :
    ∃ u, (Instr.sliceAt t v lo hi mx).run P w = .ok u w ∧ DR F w (.sl ed.size en z ((ls.drop l.toNat).take (h.toNat - l.toNat))) u := by
  have e1 : ∀ (x : Value), (Instr.sliceAt t x lo hi mx).run P w = (Instr.slice t x lo hi mx).run P w := fun x => by
    simp only [Instr.sliceAt, Sem.run_bind, ht.runU, Result.andThen_ok, hd]
  simp only [DR] at hx
  rcases hx with ⟨⟨p, cap, rfl⟩, rfl⟩ | ⟨b, off, cap, arr, ty, fz, rfl, hc, hb, hh, hr⟩
  · have hl0 : l = 0 := by simp at h2; omega
    have hh0 : h = 0 := by simp at h2; omega
    subst hl0 hh0
    obtain ⟨m', hm1, hm2, hm3⟩ : ∃ m' : Int, ((mx = none ∧ m' = cap) ∨ ∃ k, mx = some (.int k m')) ∧ 0 ≤ m' ∧ m' ≤ cap := by
      rcases hmx with ⟨h', _⟩ | ⟨k, i, h', _, h2', h3⟩
      · exact ⟨cap, .inl ⟨h', rfl⟩, by omega, by omega⟩
      · exact ⟨i, .inr ⟨k, h'⟩, h2', by simp at h3; omega⟩
    refine ⟨.slice (if m'.toNat = (0 : Int).toNat then p else p.map (·.add ((0 : Int).toNat * ed.size))) 0 (m'.toNat - (0 : Int).toNat), ?_, by simp only [DR]; exact .inl ⟨⟨_, _, rfl⟩, by simp⟩⟩
    rw [e1]
    have := run_sliceBounds (P := P) (w := w) true 0 cap lo hi mx 0 0 m' hlo (by simpa using hhi) hm1 (by omega) (by omega) hm2 hm3
    simp only [Instr.slice, Sem.run_bind, ht.runU, Result.andThen_ok, hd, this, he.runS, Sem.run_pure]
    rfl
  · obtain ⟨m', hm1, hm2, hm3⟩ : ∃ m' : Int, ((mx = none ∧ m' = cap) ∨ ∃ k, mx = some (.int k m')) ∧ h ≤ m' ∧ m' ≤ cap := by
      rcases hmx with ⟨h', _⟩ | ⟨k, i, h', _, h2', h3⟩
      · exact ⟨cap, .inl ⟨h', rfl⟩, by omega, by omega⟩
      · exact ⟨i, .inr ⟨k, h'⟩, h2', by omega⟩
    refine ⟨.slice (some ⟨b, if m'.toNat = l.toNat then off else off + l.toNat * ed.size, none⟩) (h.toNat - l.toNat) (m'.toNat - l.toNat), ?_, ?_⟩
    · rw [e1]
      have := run_sliceBounds (P := P) (w := w) true ls.length cap lo hi mx l h m' hlo hhi hm1 h0 h1 hm2 hm3
      simp only [Instr.slice, Sem.run_bind, ht.runU, Result.andThen_ok, hd, this, he.runS, Sem.run_pure]
      rw [add_if _ rfl]
    · have hlen : ((ls.drop l.toNat).take (h.toNat - l.toNat)).length = h.toNat - l.toNat := by simp; omega
      simp only [DR]
      refine .inr ⟨b, _, m'.toNat - l.toNat, arr, ty, fz, by rw [hlen], by omega, hb, hh, fun i a hi => ?_⟩
      have hlt : i < h.toNat - l.toNat := hlen ▸ (List.getElem?_eq_some_iff.1 hi).1
      rw [List.getElem?_take, if_pos hlt, List.getElem?_drop] at hi
      obtain ⟨g1, g2⟩ := hr _ a hi
      refine ⟨g1, ?_⟩
      rw [if_neg (by omega)]
      rwa [Nat.add_assoc, ← Nat.add_mul]

theorem take_all {α : Type} {l : List α} {n : Nat} (h : n = l.length) : l.take n = l := by subst h; simp

theorem sliceQ_sound {P : Program} {io : Keys} {F : Nat → Prop} {w : World} {t e : TypeId} {td ed : TyD} (ht : TyOk P t td) (hd : td.desc = .slice e) (he : TyOk P e ed) {x : V} {v : Value} (hx : VR io F w x v) (lo hi mx : Option Value) (lo' hi' mx' : Option Int) (hlo : (lo = none ∧ lo' = none) ∨ ∃ k l, lo = some (.int k l) ∧ lo' = some l) (hhi : (hi = none ∧ hi' = none) ∨ ∃ k h, hi = some (.int k h) ∧ hi' = some h) (hmx : (mx = none ∧ mx' = none) ∨ ∃ k h, mx = some (.int k h) ∧ mx' = some h) {m : Bool} {C : Prop} {r : V} (hq : sliceQ m ed.size x lo' hi' mx' = some (C, r)) (hC : C) :
    ∃ u, (Instr.sliceAt t v lo hi mx).run P w = .ok u w ∧ VR io F w r u := by
  have e1 : ∀ (x : Value), (Instr.sliceAt t x lo hi mx).run P w = (Instr.slice t x lo hi mx).run P w := fun x => by
    simp only [Instr.sliceAt, Sem.run_bind, ht.runU, Result.andThen_ok, hd]
  have L0 : lo' = none → lo = none := fun h => by rcases hlo with ⟨h', _⟩ | ⟨_, _, _, h'⟩; exact h'; rw [h] at h'; cases h'
  have L1 : ∀ n, lo' = some n → ∃ k, lo = some (.int k n) := fun n h => by rcases hlo with ⟨_, h'⟩ | ⟨k, l, h1, h'⟩; rw [h] at h'; cases h'; rw [h] at h'; cases h'; exact ⟨k, h1⟩
  have H0 : hi' = none → hi = none := fun h => by rcases hhi with ⟨h', _⟩ | ⟨_, _, _, h'⟩; exact h'; rw [h] at h'; cases h'
  have H1 : ∀ n, hi' = some n → ∃ k, hi = some (.int k n) := fun n h => by rcases hhi with ⟨_, h'⟩ | ⟨k, l, h1, h'⟩; rw [h] at h'; cases h'; rw [h] at h'; cases h'; exact ⟨k, h1⟩
  have M0 : mx' = none → mx = none := fun h => by rcases hmx with ⟨h', _⟩ | ⟨_, _, _, h'⟩; exact h'; rw [h] at h'; cases h'
  have M1 : ∀ n, mx' = some n → ∃ k, mx = some (.int k n) := fun n h => by rcases hmx with ⟨_, h'⟩ | ⟨k, l, h1, h'⟩; rw [h] at h'; cases h'; rw [h] at h'; cases h'; exact ⟨k, h1⟩
  unfold sliceQ at hq
  split at hq
  · rename_i sz' α en z ls
    split at hq
    · cases hq
    rename_i hsz
    have hsz := Nat.eq_of_beq_eq_true hsz
    subst hsz
    have hx' : DR F w (.sl ed.size en z ls) v := by simpa only [VR] using hx
    have A := fun l h => run_sliceSl ht hd he hx' lo hi mx l h mx'
    split at hq
    · simp only [Option.some.injEq, Prod.mk.injEq] at hq; obtain ⟨rfl, rfl⟩ := hq
      obtain ⟨u, h1, h2⟩ := A 0 ls.length (.inl ⟨L0 rfl, rfl⟩) (.inl ⟨H0 rfl, rfl, M0 rfl⟩) (.inl ⟨M0 rfl, rfl⟩) (by omega) (by omega) (by omega)
      exact ⟨u, h1, by simpa only [VR, Int.toNat_zero, List.drop_zero, Int.toNat_natCast, Nat.sub_zero, List.take_length] using h2⟩
    · rename_i h
      split at hq
      · rename_i C' h' hn
        simp only [Option.some.injEq, Prod.mk.injEq] at hq; obtain ⟨rfl, rfl⟩ := hq
        obtain ⟨g0, g1⟩ := natOf_spec hn hC.1
        have := hC.2
        simp only at g1 this
        obtain ⟨u, h1, h2⟩ := A 0 h (.inl ⟨L0 rfl, rfl⟩) (.inr (H1 _ rfl)) (.inl ⟨M0 rfl, rfl⟩) (by omega) (by omega) (by omega)
        exact ⟨u, h1, by simpa only [VR, Int.toNat_zero, List.drop_zero, g1, Nat.sub_zero] using h2⟩
      · cases hq
    · rename_i h g
      split at hq
      · rename_i C' h' hn
        simp only [Option.some.injEq, Prod.mk.injEq] at hq; obtain ⟨rfl, rfl⟩ := hq
        obtain ⟨g0, g1⟩ := natOf_spec hn hC.1
        have hC2 := hC.2
        obtain ⟨k, hk⟩ := M1 _ rfl
        obtain ⟨u, h1, h2⟩ := A 0 h (.inl ⟨L0 rfl, rfl⟩) (.inr (H1 _ rfl)) (.inr ⟨k, g, hk, rfl, hC2.1, hC2.2⟩) (by omega) (by omega) (by omega)
        exact ⟨u, h1, by simpa only [VR, Int.toNat_zero, List.drop_zero, g1, Nat.sub_zero] using h2⟩
      · cases hq
    · rename_i n
      split at hq
      · rename_i C' n' hn
        simp only [Option.some.injEq, Prod.mk.injEq] at hq; obtain ⟨rfl, rfl⟩ := hq
        obtain ⟨g0, g1⟩ := natOf_spec hn hC.1
        have := hC.2
        simp only at g1 this
        obtain ⟨u, h1, h2⟩ := A n ls.length (.inr (L1 _ rfl)) (.inl ⟨H0 rfl, rfl, M0 rfl⟩) (.inl ⟨M0 rfl, rfl⟩) (by omega) (by omega) (by omega)
        refine ⟨u, h1, ?_⟩
        simp only [VR]
        rw [g1, Int.toNat_natCast, take_all (by simp)] at h2
        exact h2
      · cases hq
    · rename_i n h
      split at hq
      · rename_i C1 n' C2 h' hn hn2
        simp only [Option.some.injEq, Prod.mk.injEq] at hq; obtain ⟨rfl, rfl⟩ := hq
        obtain ⟨c1, c2, c3, c4⟩ := hC
        obtain ⟨g0, g1⟩ := natOf_spec hn c1
        obtain ⟨g2, g3⟩ := natOf_spec hn2 c2
        simp only at g1 g3 c3 c4
        obtain ⟨u, h1, h2⟩ := A n h (.inr (L1 _ rfl)) (.inr (H1 _ rfl)) (.inl ⟨M0 rfl, rfl⟩) (by omega) (by omega) (by omega)
        exact ⟨u, h1, by simpa only [VR, g1, g3] using h2⟩
      · cases hq
    · cases hq
  · rename_i k o n ty sz'
    split at hq
    · cases hq
    rename_i hsz
    have hsz := Nat.eq_of_beq_eq_true hsz
    subst hsz
    have B : ∀ l h : Int, mx = none → 0 ≤ l → l ≤ h → h ≤ n → (l = 0 ∨ l < h) → ((lo = none ∧ l = 0) ∨ ∃ k, lo = some (.int k l)) → ((hi = none ∧ h = n) ∨ ∃ k, hi = some (.int k h)) → ∃ u, (Instr.sliceAt t v lo hi mx).run P w = .ok u w ∧ VR io F w (.own k (o + l.toNat) (h.toNat - l.toNat) ty ed.size) u := fun l h hm h0 h1 h2 hor hl hh => by
      simp only [VR] at hx
      rcases hx with ⟨hk, rfl, hn0, ho0⟩ | ⟨b, cap, arr, hk, rfl, hc, hm', hb, hs, hln⟩
      · subst hn0 ho0
        have : h = 0 := by omega
        have hl0 : l = 0 := by omega
        subst this hl0
        refine ⟨.slice none 0 0, ?_, by simp [VR, hk]⟩
        rw [e1]
        have := run_sliceBounds (P := P) (w := w) true 0 0 lo hi mx 0 0 0 hl (by rcases hh with ⟨g, _⟩ | g; exact .inl ⟨g, rfl, hm⟩; exact .inr g) (.inl ⟨hm, rfl⟩) (by omega) (by omega) (by omega) (by omega)
        simp only [Instr.slice, Sem.run_bind, ht.runU, Result.andThen_ok, hd, this, he.runS]
        simp
      · refine ⟨.slice (some ⟨b, (o + l.toNat) * ed.size, none⟩) (h.toNat - l.toNat) (cap - l.toNat), ?_, ?_⟩
        · rw [e1]
          have := run_sliceBounds (P := P) (w := w) true n cap lo hi mx l h cap hl (by rcases hh with ⟨g, g'⟩ | g; exact .inl ⟨g, g', hm⟩; exact .inr g) (.inl ⟨hm, rfl⟩) h0 h1 (by omega) (by omega)
          simp only [Instr.slice, Sem.run_bind, ht.runU, Result.andThen_ok, hd, this, he.runS, Sem.run_pure]
          rw [add_if _ rfl]
          simp only [Int.toNat_natCast]
          congr 3
          rw [Nat.add_mul]
          split
          · rename_i hcl
            have : l = 0 := by omega
            subst this; simp
          · rfl
        · simp only [VR]
          exact .inr ⟨b, cap - l.toNat, arr, hk, rfl, by omega, by omega, hb, by rw [hs]; congr 1; omega, by omega⟩
    split at hq
    · simp only [Option.some.injEq, Prod.mk.injEq] at hq; obtain ⟨rfl, rfl⟩ := hq
      obtain ⟨u, h1, h2⟩ := B 0 n (M0 rfl) (by omega) (by omega) (by omega) (.inl rfl) (.inl ⟨L0 rfl, rfl⟩) (.inl ⟨H0 rfl, rfl⟩)
      exact ⟨u, h1, by simpa using h2⟩
    · rename_i h
      split at hq
      · rename_i C' h' hn
        simp only [Option.some.injEq, Prod.mk.injEq] at hq; obtain ⟨rfl, rfl⟩ := hq
        obtain ⟨g0, g1⟩ := natOf_spec hn hC.1
        have := hC.2
        simp only at g1 this
        obtain ⟨u, h1, h2⟩ := B 0 h (M0 rfl) (by omega) (by omega) (by omega) (.inl rfl) (.inl ⟨L0 rfl, rfl⟩) (.inr (H1 _ rfl))
        exact ⟨u, h1, by simpa [g1] using h2⟩
      · cases hq
    · rename_i a
      split at hq
      · rename_i C' a' hn
        simp only [Option.some.injEq, Prod.mk.injEq] at hq; obtain ⟨rfl, rfl⟩ := hq
        obtain ⟨g0, g1⟩ := natOf_spec hn hC.1
        have := hC.2
        simp only at g1 this
        obtain ⟨u, h1, h2⟩ := B a n (M0 rfl) (by omega) (by omega) (by omega) (.inr (by omega)) (.inr (L1 _ rfl)) (.inl ⟨H0 rfl, rfl⟩)
        exact ⟨u, h1, by simpa [g1, plus0_eq] using h2⟩
      · cases hq
    · rename_i a h
      split at hq
      · rename_i C1 a' C2 h' hn hn2
        simp only [Option.some.injEq, Prod.mk.injEq] at hq; obtain ⟨rfl, rfl⟩ := hq
        obtain ⟨c1, c2, c3, c4⟩ := hC
        obtain ⟨g0, g1⟩ := natOf_spec hn c1
        obtain ⟨g2, g3⟩ := natOf_spec hn2 c2
        simp only at g1 g3 c3 c4
        obtain ⟨u, h1, h2⟩ := B a h (M0 rfl) (by omega) (by omega) (by omega) (.inr (by omega)) (.inr (L1 _ rfl)) (.inr (H1 _ rfl))
        exact ⟨u, h1, by simpa [g1, g3, plus0_eq] using h2⟩
      · cases hq
    · cases hq
  · have hv : v = .slice none 0 0 := by simpa only [VR, DR] using hx
    subst hv
    have Z : ∀ h : Int, h = 0 → mx = none → lo = none → ((hi = none ∧ h = 0) ∨ ∃ k, hi = some (.int k h)) → ∃ u, (Instr.sliceAt t (.slice none 0 0) lo hi mx).run P w = .ok u w ∧ VR io F w (.d .nils) u := fun h h0 hm hl hh => by
      subst h0
      refine ⟨.slice none 0 0, ?_, by simp only [VR, DR]⟩
      rw [e1]
      have := run_sliceBounds (P := P) (w := w) true 0 0 lo hi mx 0 0 0 (.inl ⟨hl, rfl⟩) (by rcases hh with ⟨g, _⟩ | g; exact .inl ⟨g, rfl, hm⟩; exact .inr g) (.inl ⟨hm, rfl⟩) (by omega) (by omega) (by omega) (by omega)
      simp only [Instr.slice, Sem.run_bind, ht.runU, Result.andThen_ok, hd, this, he.runS]
      simp
    split at hq
    · simp only [Option.some.injEq, Prod.mk.injEq] at hq; obtain ⟨rfl, rfl⟩ := hq
      exact Z 0 rfl (M0 rfl) (L0 rfl) (.inl ⟨H0 rfl, rfl⟩)
    · rename_i h
      simp only [Option.some.injEq, Prod.mk.injEq] at hq; obtain ⟨rfl, rfl⟩ := hq
      exact Z h hC (M0 rfl) (L0 rfl) (.inr (H1 _ rfl))
    · cases hq
  · cases hq

theorem size_mk (b : List UInt8) : (⟨b.toArray⟩ : ByteArray).size = b.length := by simp [ByteArray.size]
theorem extract_mk (b : List UInt8) (l h : Nat) : (⟨b.toArray⟩ : ByteArray).extract l h = ⟨((b.drop l).take (h - l)).toArray⟩ := by
  apply ByteArray.ext
  rw [ByteArray.data_extract]
  simp [List.extract_eq_take_drop]

theorem strQ_sound {P : Program} {io : Keys} {F : Nat → Prop} {w : World} {t : TypeId} {td : TyD} (ht : TyOk P t td) (hd : td.desc = .string) {b : List UInt8} (lo hi : Option Value) (lo' hi' : Option Int) (hlo : (lo = none ∧ lo' = none) ∨ ∃ k l, lo = some (.int k l) ∧ lo' = some l) (hhi : (hi = none ∧ hi' = none) ∨ ∃ k h, hi = some (.int k h) ∧ hi' = some h) {m : Bool} {C : Prop} {r : V} (hq : strQ m b lo' hi' = some (C, r)) (hC : C) :
    ∃ u, (Instr.sliceAt t (.string ⟨b.toArray⟩) lo hi none).run P w = .ok u w ∧ VR io F w r u := by
  have e1 : ∀ (x : Value), (Instr.sliceAt t x lo hi none).run P w = (Instr.slice t x lo hi none).run P w := fun x => by
    simp only [Instr.sliceAt, Sem.run_bind, ht.runU, Result.andThen_ok, hd]
  have L0 : lo' = none → lo = none := fun h => by rcases hlo with ⟨h', _⟩ | ⟨_, _, _, h'⟩; exact h'; rw [h] at h'; cases h'
  have L1 : ∀ n, lo' = some n → ∃ k, lo = some (.int k n) := fun n h => by rcases hlo with ⟨_, h'⟩ | ⟨k, l, h1, h'⟩; rw [h] at h'; cases h'; rw [h] at h'; cases h'; exact ⟨k, h1⟩
  have H0 : hi' = none → hi = none := fun h => by rcases hhi with ⟨h', _⟩ | ⟨_, _, _, h'⟩; exact h'; rw [h] at h'; cases h'
  have H1 : ∀ n, hi' = some n → ∃ k, hi = some (.int k n) := fun n h => by rcases hhi with ⟨_, h'⟩ | ⟨k, l, h1, h'⟩; rw [h] at h'; cases h'; rw [h] at h'; cases h'; exact ⟨k, h1⟩
  have A : ∀ l h : Int, 0 ≤ l → l ≤ h → h ≤ b.length → ((lo = none ∧ l = 0) ∨ ∃ k, lo = some (.int k l)) → ((hi = none ∧ h = b.length) ∨ ∃ k, hi = some (.int k h)) → ∃ u, (Instr.sliceAt t (.string ⟨b.toArray⟩) lo hi none).run P w = .ok u w ∧ VR io F w (.d (.str ((b.drop l.toNat).take (h.toNat - l.toNat)))) u := fun l h h0 h1 h2 hl hh => by
    refine ⟨.string ⟨((b.drop l.toNat).take (h.toNat - l.toNat)).toArray⟩, ?_, by simp only [VR, DR]⟩
    rw [e1]
    have := run_sliceBounds (P := P) (w := w) false b.length b.length lo hi none l h b.length hl (by rcases hh with ⟨g, g'⟩ | g; exact .inl ⟨g, g', rfl⟩; exact .inr g) (.inl ⟨rfl, rfl⟩) h0 h1 h2 (by omega)
    simp only [Instr.slice, Sem.run_bind, ht.runU, Result.andThen_ok, hd, Option.isSome_none, Bool.false_eq_true, if_false, size_mk]
    simp only [Sem.run_pure, Sem.run_bind, Result.andThen_ok, this, extract_mk]
  unfold strQ at hq
  split at hq
  · simp only [Option.some.injEq, Prod.mk.injEq] at hq; obtain ⟨rfl, rfl⟩ := hq
    obtain ⟨u, h1, h2⟩ := A 0 b.length (by omega) (by omega) (by omega) (.inl ⟨L0 rfl, rfl⟩) (.inl ⟨H0 rfl, rfl⟩)
    exact ⟨u, h1, by simpa only [Int.toNat_zero, List.drop_zero, Int.toNat_natCast, Nat.sub_zero, List.take_length] using h2⟩
  · rename_i n
    split at hq
    · rename_i C' n' hn
      simp only [Option.some.injEq, Prod.mk.injEq] at hq; obtain ⟨rfl, rfl⟩ := hq
      obtain ⟨g0, g1⟩ := natOf_spec hn hC.1
      have := hC.2
      simp only at g1 this
      obtain ⟨u, h1, h2⟩ := A n b.length (by omega) (by omega) (by omega) (.inr (L1 _ rfl)) (.inl ⟨H0 rfl, rfl⟩)
      refine ⟨u, h1, ?_⟩
      rw [g1, Int.toNat_natCast, take_all (by simp)] at h2
      exact h2
    · cases hq
  · rename_i h
    split at hq
    · rename_i C' h' hn
      simp only [Option.some.injEq, Prod.mk.injEq] at hq; obtain ⟨rfl, rfl⟩ := hq
      obtain ⟨g0, g1⟩ := natOf_spec hn hC.1
      have := hC.2
      simp only at g1 this
      obtain ⟨u, h1, h2⟩ := A 0 h (by omega) (by omega) (by omega) (.inl ⟨L0 rfl, rfl⟩) (.inr (H1 _ rfl))
      exact ⟨u, h1, by simpa only [Int.toNat_zero, List.drop_zero, g1, Nat.sub_zero] using h2⟩
    · cases hq
  · rename_i n h
    split at hq
    · rename_i C1 n' C2 h' hn hn2
      simp only [Option.some.injEq, Prod.mk.injEq] at hq; obtain ⟨rfl, rfl⟩ := hq
      obtain ⟨c1, c2, c3, c4⟩ := hC
      obtain ⟨g0, g1⟩ := natOf_spec hn c1
      obtain ⟨g2, g3⟩ := natOf_spec hn2 c2
      simp only at g1 g3 c3 c4
      obtain ⟨u, h1, h2⟩ := A n h (by omega) (by omega) (by omega) (.inr (L1 _ rfl)) (.inr (H1 _ rfl))
      exact ⟨u, h1, by simpa only [g1, g3] using h2⟩
    · cases hq
end Go.Vw

/-
  What evalQ says of an operation is what the machine does: structs, and the whole. Conditions: the table of types is the program's.
-/
namespace Go.Vw
open Go.RowKit

theorem foldl_put (off : Nat) : ∀ (l : List Value) (i : Nat) (cs : Array Value), off + i + l.length ≤ cs.size →
    ((l.zipIdx i).foldl (fun cs (p : Value × Nat) => cs.setIfInBounds (off + p.2) p.1) cs).toList = cs.toList.take (off + i) ++ (l ++ cs.toList.drop (off + i + l.length))
  | [], i, cs, _ => by simp
  | v :: l, i, cs, h => by
    simp only [List.zipIdx_cons, List.foldl_cons]
    rw [foldl_put off l (i + 1) _ (by simp at h ⊢; omega)]
    simp only [Array.toList_setIfInBounds, List.length_cons] at h ⊢
    rw [List.set_eq_take_append_cons_drop, if_pos (by simp; omega)]
    have hA : (cs.toList.take (off + i)).length = off + i := by simp; omega
    have h1 : (cs.toList.take (off + i) ++ v :: cs.toList.drop (off + i + 1)).take (off + (i + 1)) = cs.toList.take (off + i) ++ [v] := by
      rw [List.take_append, hA, List.take_of_length_le (by omega), show off + (i + 1) - (off + i) = 1 by omega]
      rfl
    have h2 : (cs.toList.take (off + i) ++ v :: cs.toList.drop (off + i + 1)).drop (off + (i + 1) + l.length) = cs.toList.drop (off + i + (l.length + 1)) := by
      rw [List.drop_append, hA, List.drop_eq_nil_of_le (by omega), show off + (i + 1) + l.length - (off + i) = l.length + 1 by omega, List.drop_succ_cons, List.drop_drop, List.nil_append]
      congr 1
      omega
    rw [h1, h2]
    simp

theorem foldl_put' (off : Nat) (v : Array Value) (cs : Array Value) (h : off + v.size ≤ cs.size) :
    (v.zipIdx.foldl (fun cs (p : Value × Nat) => cs.setIfInBounds (off + p.2) p.1) cs).toList = cs.toList.take off ++ (v.toList ++ cs.toList.drop (off + v.size)) := by
  have := foldl_put off v.toList 0 cs (by simpa using h)
  rw [← Array.foldl_toList]
  simpa using this

def VRL (io : Keys) (F : Nat → Prop) (w : World) (cs : List V) (vs : List Value) : Prop := vs.length = cs.length ∧ VRA io F w (fun i => vs[i]?) 0 cs

theorem VRL.append {io : Keys} {F : Nat → Prop} {w : World} {xs ys : List V} {vs us : List Value} (h : VRL io F w xs vs) (k : VRL io F w ys us) : VRL io F w (xs ++ ys) (vs ++ us) := by
  refine ⟨by simp [h.1, k.1], ?_⟩
  rw [VRA_iff]
  intro i c hi
  by_cases h' : i < xs.length
  · rw [List.getElem?_append_left h'] at hi
    obtain ⟨v, h1, h2⟩ := VRA_iff.1 h.2 i c hi
    refine ⟨v, ?_, h2⟩
    simp only [Nat.zero_add] at h1 ⊢
    rw [List.getElem?_append_left (by rw [h.1]; exact h')]; exact h1
  · rw [List.getElem?_append_right (by omega)] at hi
    obtain ⟨v, h1, h2⟩ := VRA_iff.1 k.2 _ c hi
    refine ⟨v, ?_, h2⟩
    simp only [Nat.zero_add] at h1 ⊢
    rw [List.getElem?_append_right (by rw [h.1]; omega), h.1]; exact h1
theorem VRL.take {io : Keys} {F : Nat → Prop} {w : World} {xs : List V} {vs : List Value} (h : VRL io F w xs vs) (n : Nat) : VRL io F w (xs.take n) (vs.take n) := by
  refine ⟨by simp [h.1], ?_⟩
  refine VRA.congr (fun i hi => ?_) (VRA.take h.2 n)
  simp at hi
  simp only [List.getElem?_take]
  rw [if_pos (by omega)]
theorem VRL.drop {io : Keys} {F : Nat → Prop} {w : World} {xs : List V} {vs : List Value} (h : VRL io F w xs vs) (n : Nat) : VRL io F w (xs.drop n) (vs.drop n) := by
  refine ⟨by simp [h.1], ?_⟩
  refine VRA.congr (fun i hi => ?_) (VRA.drop h.2 n)
  simp only [List.getElem?_drop]
  congr 1; omega
theorem VRL.toV {io : Keys} {F : Nat → Prop} {w : World} {ds : List D} {arr : Array Value} (hl : arr.size = ds.length) (h : DRA F w (fun i => arr[i]?) 0 ds) : VRL io F w (ds.map V.d) arr.toList :=
  ⟨by simpa using hl, VRA.congr (fun i _ => by simp) (DRA.toV h)⟩

theorem fill_sound {io : Keys} {F : Nat → Prop} {w : World} {place place' : Nat → Option (Nat × Nat)} (hp : ∀ i p, place i = some p → place' i = some p) :
    ∀ (parts : List (Nat × V)) (vals : List (Nat × Value)) (cs cs' : List V) (cells : Array Value), fillD place cs parts = some cs' → VRL io F w cs cells.toList →
      vals.length = parts.length → (∀ (j i : Nat) (x : V) (v : Value) (i' : Nat), parts[j]? = some (i, x) → vals[j]? = some (i', v) → i' = i ∧ VR io F w x v) →
      ∃ cells', Instr.fill place' cells vals = some cells' ∧ VRL io F w cs' cells'.toList
  | [], vals, cs, cs', cells, h, hv, hl, _ => by
    simp [fillD] at h; subst h
    have : vals = [] := by simpa using hl
    subst this
    exact ⟨cells, rfl, hv⟩
  | (i, x) :: parts, [], cs, cs', cells, h, hv, hl, hx => by simp at hl
  | (i, x) :: parts, (i', v) :: vals, cs, cs', cells, h, hv, hl, hx => by
    obtain ⟨rfl, hxv⟩ := hx 0 i x v i' (by simp) (by simp)
    simp only [fillD] at h
    split at h
    · cases h
    · rename_i off size hpl
      split at h
      · rename_i hok
        simp only [Bool.and_eq_true] at hok
        obtain ⟨⟨hst, hsz⟩, hb⟩ := hok
        have hsz := Nat.eq_of_beq_eq_true hsz
        have hb := Nat.le_of_ble_eq_true hb
        obtain ⟨hc1, hc⟩ := VR.cells hst hxv
        have hlen : v.cells.size = size := by omega
        have hcl := hv.1
        simp at hcl
        simp only [Instr.fill, hp i' _ hpl]
        rw [if_neg (by rw [hlen]; simp; omega)]
        refine fill_sound hp parts vals _ cs' _ h ?_ (by simpa using hl) (fun j i x u i' h1 h2 => hx (j + 1) i x u i' (by simpa using h1) (by simpa using h2))
        rw [foldl_put' off v.cells cells (by omega), hlen]
        exact VRL.append (VRL.take hv _) (VRL.append ⟨by simpa using hc1, VRA.congr (fun i _ => by simp) hc⟩ (VRL.drop hv _))
      · cases h

theorem run_mapM_fields {P : Program} {T : TypeId → Option TyD} (hT : TabOk P T) {w : World} : ∀ (fs : List Field), (∀ f ∈ fs, (T f.type).isSome = true) →
    (fs.mapM (fun f => do pure (f.offset, ← sizeOf f.type) : Field → Sem (Nat × Nat))).run P w = .ok (fs.map fun f => (f.offset, ((T f.type).map (·.size)).getD 0)) w
  | [], _ => by simp
  | f :: fs, h => by
    have hf := h f (by simp)
    obtain ⟨d, hd⟩ := Option.isSome_iff_exists.1 hf
    have ih := run_mapM_fields hT (w := w) fs fun g hg => h g (by simp [hg])
    simp only [List.mapM_cons, Sem.run_bind, (hT _ _ hd).runS, Result.andThen_ok, Sem.run_pure, ih, List.map_cons, hd, Option.map_some, Option.getD_some]

theorem run_buildStruct {P : Program} {T : TypeId → Option TyD} (hT : TabOk P T) {io : Keys} {F : Nat → Prop} {w : World} {t : TypeId} {td : TyD} (ht : T t = some td) {fs : Array Field} (hd : td.desc = .struct fs) (ha : allTyped T fs = true) {z : List D} (hz : D.ofV td.zero = .agg z)
    {parts : List (Nat × V)} {cells : List V} (hf : fillD (structPlaces T fs) (z.map V.d) parts = some cells) {vals : Array (Nat × Value)} (hl : vals.toList.length = parts.length) (hx : ∀ (j i : Nat) (x : V) (v : Value) (i' : Nat), parts[j]? = some (i, x) → vals.toList[j]? = some (i', v) → i' = i ∧ VR io F w x v) :
    ∃ v, (Instr.build t vals).run P w = .ok v w ∧ VR io F w (mkAgg cells) v := by
  have hto := hT _ _ ht
  have hall : ∀ f ∈ fs.toList, (T f.type).isSome = true := fun f hf => by
    exact List.all_eq_true.1 ha f hf
  have hm := run_mapM_fields hT (w := w) fs.toList hall
  have hzero : DR F w (D.ofV td.zero) td.zero := DR.ofV F w td.zero
  rw [hz] at hzero
  simp only [DR] at hzero
  obtain ⟨arr, e, hzs, hzl⟩ := hzero
  have hfill := fill_sound (io := io) (F := F) (w := w) (place := structPlaces T fs) (place' := fun i => (fs.toList.map fun f => (f.offset, ((T f.type).map (·.size)).getD 0)).toArray[i]?) (fun i p hp => by
    unfold structPlaces at hp
    split at hp
    · rename_i f hfi
      split at hp
      · rename_i fd hfd
        simp at hp; subst hp
        simp [hfi, hfd]
      · cases hp
    · cases hp) parts vals.toList _ cells arr hf (VRL.toV hzs hzl) hl hx
  obtain ⟨cells', hc1, hc2⟩ := hfill
  refine ⟨.agg cells', ?_, VR.mkAgg (by simpa using hc2.1) (VRA.congr (fun i _ => by simp) hc2.2)⟩
  have hma : (fs.mapM (fun f => do pure (f.offset, ← sizeOf f.type) : Field → Sem (Nat × Nat))).run P w = .ok (fs.toList.map fun f => (f.offset, ((T f.type).map (·.size)).getD 0)).toArray w := by
    rw [Array.mapM_eq_mapM_toList]
    simp only [Sem.run_map, hm, Result.andThen_ok]
  have ev : td.zero.cells = arr := by rw [e]; rfl
  simp only [Instr.build, Sem.run_bind, hto.runZ, Result.andThen_ok, hto.runU, hd, Sem.run_pure]
  rw [hma]
  simp only [Result.andThen_ok, ev, hc1]
  rfl

theorem yields_of {P : Program} {w : World} {m : Sem Value} {v : Value} (h : m.run P w = .ok v w) : (do pure (Next.value (← m)) : Sem Next).run P w = .ok (.value v) w := by
  simp [h]

theorem optI_sound {io : Keys} {F : Nat → Prop} {w : World} {s : St} {ev : Operand → Value} {lo : Option Operand} {l : Option Int} (ho : ∀ y, lo = some y → VR io F w (s.opd y) (ev y)) (h : optI s lo = some l) : (lo.map ev = none ∧ l = none) ∨ ∃ k n, lo.map ev = some (.int k n) ∧ l = some n := by
  cases lo with
  | none => simp only [optI, Option.some.injEq] at h; subst h; exact .inl ⟨rfl, rfl⟩
  | some y =>
    simp only [optI] at h
    split at h
    · rename_i n hn
      simp only [Option.some.injEq] at h; subst h
      obtain ⟨k, hk⟩ := intOfV_sound hn (ho y rfl)
      exact .inr ⟨k, n, by simp [hk], rfl⟩
    · cases h

theorem V.one_cells {x : V} (h : x.one = true) : x.storable = true ∧ x.cells = [x] := by
  cases x with
  | d x => cases x <;> first | exact ⟨h, rfl⟩ | cases h
  | own k o n ty sz => exact ⟨rfl, rfl⟩
  | ptr k o => exact ⟨rfl, rfl⟩
  | eptr k sz i f => exact ⟨rfl, rfl⟩
  | agg cs => cases h
  | tup cs => cases h
  | fn f cs => exact ⟨rfl, rfl⟩
theorem VR.one {io : Keys} {F : Nat → Prop} {w : World} {x : V} {v : Value} (h1 : x.one = true) (h : VR io F w x v) : v.oneCell' = true := by
  obtain ⟨hs, hc⟩ := V.one_cells h1
  obtain ⟨g1, g2⟩ := VR.cells hs h
  rw [hc] at g1 g2
  simp only [VRA] at g2
  obtain ⟨⟨u, hu, ho, _⟩, _⟩ := g2
  cases v <;> first | rfl | skip
  all_goals first | (simp only [Value.cells] at hu; simp at hu; subst hu; exact ho) | skip
  rename_i arr
  exfalso
  cases x with
  | d x =>
    cases x <;> first | (cases h1; done) | (simp only [VR, DR] at h) | skip
    all_goals first | (cases h; done) | (obtain ⟨_, e, _⟩ := h; cases e; done) | (rcases h with ⟨⟨_, _, e⟩, _⟩ | ⟨_, _, _, _, _, _, e, _⟩ <;> cases e) | (obtain ⟨_, _, _, _, _, e, _⟩ := h; cases e) | (obtain ⟨⟨_, _, e⟩, _⟩ := h; cases e; done) | skip
    subst h; cases h1
  | own k o n ty sz => simp only [VR] at h; rcases h with ⟨_, e, _⟩ | ⟨_, _, _, _, e, _⟩ <;> cases e
  | ptr k o => simp only [VR] at h; obtain ⟨_, _, e⟩ := h; cases e
  | eptr k sz i f => simp only [VR] at h; obtain ⟨_, _, e⟩ := h; cases e
  | agg cs => cases h1
  | tup cs => cases h1
  | fn f cs => simp only [VR] at h; obtain ⟨_, e, _⟩ := h; cases e

set_option maxHeartbeats 1000000 in
theorem evalQ_sound {P : Program} {T : TypeId → Option TyD} (hT : TabOk P T) {A : Nat → Prop} {n0 : Nat} {io : Keys} {F : Nat → Prop} {s : St} {w : World} {ev : Operand → Value} (o : Oper) (ho : ∀ y ∈ o.op.operands.toList, VR io F w (s.opd y) (ev y)) (hb : ∀ k b, s.blk k = some b → BR A n0 io F w k b) {m : Bool} {C : Prop} {x : V} (h : evalQ T m s o.op = some (C, x)) (hC : C) : ∃ v, (execOp ev o).run P w = .ok (.value v) w ∧ VR io F w x v := by
  obtain ⟨dst, op, ty, pos, after, guard⟩ := o
  cases op <;> simp only [evalQ, Op.operands] at h ho <;> try (cases h; done)
  case move y =>
    simp only [Option.some.injEq, Prod.mk.injEq] at h; obtain ⟨rfl, rfl⟩ := h
    exact ⟨ev y, rfl, ho y (by simp)⟩
  case assign y =>
    simp only [Option.some.injEq, Prod.mk.injEq] at h; obtain ⟨rfl, rfl⟩ := h
    exact ⟨ev y, rfl, ho y (by simp)⟩
  case pick c y z =>
    split at h
    · rename_i t hc
      have hb := ho c (by simp)
      have hy := ho y (by simp)
      have hz := ho z (by simp)
      rw [hc] at hb
      simp only [VR, DR] at hb
      have run : (execOp ev ⟨dst, .pick c y z, ty, pos, after, guard⟩).run P w = .ok (.value (if t then ev y else ev z)) w := by simp [execOp, hb, asBool]
      split at h
      · simp only [Option.some.injEq, Prod.mk.injEq] at h; obtain ⟨rfl, rfl⟩ := h
        refine ⟨_, run, ?_⟩
        cases t
        · exact hz
        · exact hy
      · split at h
        · rename_i u v hu hv
          simp only [Option.some.injEq, Prod.mk.injEq] at h; obtain ⟨rfl, rfl⟩ := h
          refine ⟨_, run, ?_⟩
          rw [hu] at hy; rw [hv] at hz
          cases t
          · exact hz
          · exact hy
        · cases h
    · cases h
  case binOp op xt y z yt =>
    split at h
    · rename_i p q dd hp hq hd
      split at h
      · rename_i C' r hb
        simp only [Option.some.injEq, Prod.mk.injEq] at h; obtain ⟨rfl, rfl⟩ := h
        have h1 := ho y (by simp)
        have h2 := ho z (by simp)
        rw [hp] at h1; rw [hq] at h2
        simp only [VR] at h1 h2
        obtain ⟨v, hr, hv⟩ := run_bin (P := P) (by cases m; exact .inr rfl; exact .inl rfl) op xt y z (hT _ _ hd) hC.2 h1 h2 hb hC.1
        exact ⟨v, yields_of hr, by simpa only [VR] using hv⟩
      · cases h
    · cases h
  case unOp op xt y =>
    split at h
    · rename_i p hp
      split at h
      · rename_i C' r hb
        simp only [Option.some.injEq, Prod.mk.injEq] at h; obtain ⟨rfl, rfl⟩ := h
        have h1 := ho y (by simp)
        rw [hp] at h1
        simp only [VR] at h1
        obtain ⟨v, hr, hv⟩ := run_un (P := P) op h1 (by cases m; exact .inr hb; exact .inl hb) hC
        exact ⟨v, yields_of hr, by simpa only [VR] using hv⟩
      · cases h
    · cases h
  case convert src dst' y =>
    split at h
    · rename_i sd dd k n h1 h2 h3
      split at h
      · rename_i k' hk
        have hy := ho y (by simp)
        rw [h3] at hy
        simp only [VR, DR] at hy
        have hu := (hT _ _ h2).runU w
        rw [hk] at hu
        have run : (execOp ev ⟨dst, .convert src dst' y, ty, pos, after, guard⟩).run P w = .ok (.value (.int k' (k'.wrap n))) w := by
          refine yields_of ?_
          simp only [convert, Sem.run_bind, (hT _ _ h1).runU, hu, hy, Result.andThen_ok]
          rfl
        refine ⟨_, run, ?_⟩
        split at h <;> simp only [Option.some.injEq, Prod.mk.injEq] at h <;> obtain ⟨rfl, rfl⟩ := h <;> simp only [VR, DR]
        · rw [wrap_lim hC]
        · rename_i c hc; rw [wrap_rest _ hc]
      · cases h
    · rename_i sd dd b h1 h2 h3
      split at h
      · rename_i hk
        simp only [Option.some.injEq, Prod.mk.injEq] at h; obtain ⟨rfl, rfl⟩ := h
        have hy := ho y (by simp)
        rw [h3] at hy
        simp only [VR, DR] at hy
        have hu := (hT _ _ h2).runU w
        rw [hk] at hu
        refine ⟨.string ⟨b.toArray⟩, yields_of ?_, by simp only [VR, DR]⟩
        simp only [convert, Sem.run_bind, (hT _ _ h1).runU, hu, hy, Result.andThen_ok]
        cases sd.desc <;> rfl
      · cases h
    · cases h
  case field t y f =>
    split at h
    · rename_i td h1
      split at h
      · rename_i fs hf
        split at h
        · rename_i fd hfd
          split at h
          · rename_i dd hdd
            have hu := (hT _ _ h1).runU w
            rw [hf] at hu
            have hy := ho y (by simp)
            split at h
            · rename_i cs hcs
              rw [hcs] at hy
              simp only [VR, DR] at hy
              obtain ⟨arr, e, hl, hy⟩ := hy
              split at h
              · rename_i u hu'
                simp only [Option.some.injEq, Prod.mk.injEq] at h; obtain ⟨rfl, rfl⟩ := h
                obtain ⟨v, hr, hv⟩ := partD_sound (P := P) (hT _ _ hdd) hl hy hu'
                refine ⟨v, yields_of ?_, by simpa only [VR] using hv⟩
                simp only [Instr.field, Sem.run_bind, hu, Result.andThen_ok, hfd, e, asAgg, Sem.run_pure, hr]
              · cases h
            · rename_i cs hcs
              rw [hcs] at hy
              simp only [VR] at hy
              obtain ⟨arr, e, hl, hy⟩ := hy
              split at h
              · rename_i u hu'
                simp only [Option.some.injEq, Prod.mk.injEq] at h; obtain ⟨rfl, rfl⟩ := h
                obtain ⟨v, hr, hv⟩ := partV_sound (P := P) (hT _ _ hdd) hl hy hu'
                refine ⟨v, yields_of ?_, hv⟩
                simp only [Instr.field, Sem.run_bind, hu, Result.andThen_ok, hfd, e, asAgg, Sem.run_pure, hr]
              · cases h
            · cases h
          · cases h
        · cases h
      · cases h
    · cases h
  case fieldAddr t y f =>
    split at h
    · rename_i td h1
      split at h
      · rename_i fs hf
        split at h
        · rename_i fd hfd
          split at h
          · rename_i dd hdd
            split at h
            · cases h
            · rename_i hz
              have hz : ¬ dd.size = 0 := fun e => by rw [e] at hz; cases hz
              have hu := (hT _ _ h1).runU w
              rw [hf] at hu
              have run : ∀ b o, ev y = .pointer (some ⟨b, o, none⟩) → (Instr.fieldAt t (ev y) f).run P w = .ok (.pointer (some ⟨b, o + fd.offset, none⟩)) w := fun b o e => by
                simp only [Instr.fieldAt, Sem.run_bind, hu, Result.andThen_ok, hfd, e, Instr.sureAddr, Sem.run_pure, fieldPlace, (hT _ _ hdd).runS, if_neg hz, add_plain]
              have hy := ho y (by simp)
              split at h
              · rename_i k o hk
                simp only [Option.some.injEq, Prod.mk.injEq] at h; obtain ⟨rfl, rfl⟩ := h
                rw [hk] at hy
                simp only [VR] at hy
                obtain ⟨b, hb, e⟩ := hy
                exact ⟨_, yields_of (run b o e), by simp only [VR, plus0_eq]; exact ⟨b, hb, rfl⟩⟩
              · rename_i k sz i o hk
                simp only [Option.some.injEq, Prod.mk.injEq] at h; obtain ⟨rfl, rfl⟩ := h
                rw [hk] at hy
                simp only [VR] at hy
                obtain ⟨b, hb, e⟩ := hy
                exact ⟨_, yields_of (run b _ e), by simp only [VR, plus0_eq]; exact ⟨b, hb, by rw [Nat.add_assoc]⟩⟩
              · rename_i cs o hk
                simp only [Option.some.injEq, Prod.mk.injEq] at h; obtain ⟨rfl, rfl⟩ := h
                rw [hk] at hy
                simp only [VR, DR] at hy
                obtain ⟨b, off, arr, ty', fz, e, hb, hh, hl⟩ := hy
                exact ⟨_, yields_of (run b _ e), by simp only [VR, DR, plus0_eq]; exact ⟨b, off, arr, ty', fz, by rw [Nat.add_assoc], hb, hh, hl⟩⟩
              · cases h
          · cases h
        · cases h
      · cases h
    · cases h
  case indexAddr t y i =>
    split at h
    · rename_i td n h1 h2
      split at h
      · rename_i e he
        split at h
        · rename_i ed C' j hed hn
          have hu := (hT _ _ h1).runU w
          rw [he] at hu
          obtain ⟨k, hk⟩ := intOfV_sound h2 (ho i (by simp))
          have run : ∀ b off len cap, ev y = .slice (some ⟨b, off, none⟩) len cap → 0 ≤ n → n < len → (Instr.indexAt t (ev y) (ev i)).run P w = .ok (.pointer (some ⟨b, off + n.toNat * ed.size, none⟩)) w := fun b off len cap e h0 h1 => by
            simp only [Instr.indexAt, hk, asIntOf, Sem.run_bind, Sem.run_pure, Result.andThen_ok, hu, e, (hT _ _ hed).runS, add_plain]
            rw [if_pos ⟨h0, h1⟩]
            simp only [Sem.run_bind, (hT _ _ hed).runS, Result.andThen_ok, Sem.run_pure, add_plain]
          have hy := ho y (by simp)
          split at h
          · rename_i sz α en z l hx
            split at h
            · rename_i hsz
              have hsz := Nat.eq_of_beq_eq_true hsz
              subst hsz
              simp only [Option.some.injEq, Prod.mk.injEq] at h; obtain ⟨rfl, rfl⟩ := h
              obtain ⟨c1, c2⟩ := hC
              obtain ⟨g0, g1⟩ := natOf_spec hn c1
              simp only at g1
              rw [hx] at hy
              simp only [VR, DR] at hy
              rcases hy with ⟨_, rfl⟩ | ⟨b, off, cap, arr, ty', fz, e, hc, hb, hh, hl⟩
              · simp at c2
              · obtain ⟨q1, q2⟩ := hl j (l.getD j z) (by rw [List.getElem?_eq_getElem c2, List.getD_eq_getElem?_getD, List.getElem?_eq_getElem c2]; rfl)
                refine ⟨_, yields_of (run b off _ cap e g0 (by omega)), ?_⟩
                simp only [VR, DR]
                exact ⟨b, off + j * ed.size, arr, ty', fz, by rw [g1]; rfl, hb, hh, q2⟩
            · cases h
          · rename_i k' o len ty' sz' hx
            split at h
            · rename_i hsz
              have hsz := Nat.eq_of_beq_eq_true hsz
              subst hsz
              have h : some (C' ∧ j < len, V.eptr k' ed.size (plus0 o j) 0) = some (C, x) := by cases o <;> exact h
              simp only [Option.some.injEq, Prod.mk.injEq] at h; obtain ⟨rfl, rfl⟩ := h
              obtain ⟨c1, c2⟩ := hC
              obtain ⟨g0, g1⟩ := natOf_spec hn c1
              simp only at g1
              rw [hx] at hy
              simp only [VR] at hy
              rcases hy with ⟨_, _, rfl, _⟩ | ⟨b, cap, arr, hb, e, _⟩
              · omega
              · refine ⟨_, yields_of (run b _ len cap e g0 (by omega)), ?_⟩
                simp only [VR, plus0_eq]
                exact ⟨b, hb, by rw [g1, Nat.add_mul]; rfl⟩
            · cases h
          · cases h
        · cases h
      · cases h
    · cases h
  case index t y i =>
    split at h
    · rename_i td n h1 h2
      split at h
      · rename_i C' j hn
        have hu := (hT _ _ h1).runU w
        obtain ⟨k, hk⟩ := intOfV_sound h2 (ho i (by simp))
        have hy := ho y (by simp)
        split at h
        · rename_i b hd hx
          simp only [Option.some.injEq, Prod.mk.injEq] at h; obtain ⟨rfl, rfl⟩ := h
          obtain ⟨c1, c2⟩ := hC
          obtain ⟨g0, g1⟩ := natOf_spec hn c1
          simp only at g1
          rw [hd] at hu
          rw [hx] at hy
          simp only [VR, DR] at hy
          refine ⟨.int .u8 (b.getD j 0).toNat, yields_of ?_, by simp only [VR, DR]⟩
          simp only [Instr.index, hk, asIntOf, Sem.run_bind, Sem.run_pure, Result.andThen_ok, hu, hy]
          have hg : (⟨b.toArray⟩ : ByteArray)[n.toNat]? = some (b.getD j 0) := by
            rw [g1, getElem?_pos _ j (by rw [size_mk]; exact c2)]
            congr 1
            rw [List.getD_eq_getElem?_getD, List.getElem?_eq_getElem c2]
            rfl
          rw [if_pos g0, hg]
          rfl
        · rename_i len e cs hd hx
          split at h
          · rename_i ed hed
            split at h
            · rename_i u hu'
              simp only [Option.some.injEq, Prod.mk.injEq] at h; obtain ⟨rfl, rfl⟩ := h
              obtain ⟨c1, c2⟩ := hC
              obtain ⟨g0, g1⟩ := natOf_spec hn c1
              simp only at g1
              rw [hd] at hu
              rw [hx] at hy
              simp only [VR, DR] at hy
              obtain ⟨arr, e', hl, hy⟩ := hy
              obtain ⟨v, hr, hv⟩ := partD_sound (P := P) (hT _ _ hed) hl hy hu'
              refine ⟨v, yields_of ?_, by simpa only [VR] using hv⟩
              simp only [Instr.index, hk, asIntOf, Sem.run_bind, Sem.run_pure, Result.andThen_ok, hu, e']
              rw [if_pos ⟨g0, by omega⟩]
              simp only [Sem.run_bind, (hT _ _ hed).runS, Result.andThen_ok, g1, hr]
            · cases h
          · cases h
        · cases h
      · cases h
    · cases h
  case load t y =>
    have hy := ho y (by simp)
    split at h
    · rename_i td k o h1 h2
      rw [h2] at hy
      simp only [VR] at hy
      obtain ⟨b, hb', e⟩ := hy
      split at h
      · rename_i ty' cs hk
        split at h
        · rename_i u hu
          simp only [Option.some.injEq, Prod.mk.injEq] at h; obtain ⟨rfl, rfl⟩ := h
          have hbr := hb k _ hk
          simp only [BR] at hbr
          obtain ⟨b', arr, g1, _, _, hh, hr⟩ := hbr
          rw [g1] at hb'; cases hb'
          obtain ⟨v, hv, hd⟩ := takeV_sound (P := P) (hT _ _ h1) hh hr hu
          refine ⟨v, yields_of ?_, hd⟩
          simpa only [Instr.loadAt, e, Instr.sureAddr, Sem.run_bind, Sem.run_pure, Result.andThen_ok, Nat.zero_add] using hv
        · cases h
      · cases h
    · rename_i td k sz i o h1 h2
      rw [h2] at hy
      simp only [VR] at hy
      obtain ⟨b, hb', e⟩ := hy
      split at h
      · rename_i ty' sz' α en z l hk
        split at h
        · rename_i hsz
          have hsz := Nat.eq_of_beq_eq_true hsz
          subst hsz
          split at h
          · rename_i u hu
            simp only [Option.some.injEq, Prod.mk.injEq] at h; obtain ⟨rfl, rfl⟩ := h
            have hbr := hb k _ hk
            simp only [BR] at hbr
            rcases hbr with ⟨_, rfl⟩ | ⟨b', arr, g1, _, _, hh, hr⟩
            · simp at hC
            · rw [g1] at hb'; cases hb'
              obtain ⟨q1, q2⟩ := hr i (l.getD i z) (by rw [List.getElem?_eq_getElem hC, List.getD_eq_getElem?_getD, List.getElem?_eq_getElem hC]; rfl)
              rw [Nat.zero_add] at q2
              obtain ⟨v, hv, hd⟩ := takeD_sound (P := P) (hT _ _ h1) hh q2 hu
              refine ⟨v, yields_of ?_, by simpa only [VR] using hd⟩
              simpa only [Instr.loadAt, e, Instr.sureAddr, Sem.run_bind, Sem.run_pure, Result.andThen_ok] using hv
          · cases h
        · cases h
      · rename_i ty' sz' α en z l i' vv hk
        split at h
        · rename_i hsz
          have hsz := Nat.eq_of_beq_eq_true hsz
          subst hsz
          have hbr := hb k _ hk
          simp only [BR] at hbr
          obtain ⟨b', arr, g1, _, _, hh, hr0, hr1, u, hr2, hr3, hr4⟩ := hbr
          rw [g1] at hb'; cases hb'
          split at h
          · split at h
            · rename_i hm
              simp only [Option.some.injEq, Prod.mk.injEq] at h; obtain ⟨rfl, rfl⟩ := h
              subst hC
              refine ⟨u, yields_of ?_, hr4⟩
              have := run_loadOne (P := P) (o := i * sz + 0) (hT _ _ h1) hm hh (v := u) (by rw [hr1, Nat.mul_one, Nat.add_zero]; exact hr2)
              simpa only [Instr.loadAt, e, Instr.sureAddr, Sem.run_bind, Sem.run_pure, Result.andThen_ok] using this
            · cases h
          · split at h
            · rename_i y hy
              simp only [Option.some.injEq, Prod.mk.injEq] at h; obtain ⟨rfl, rfl⟩ := h
              obtain ⟨q1, q2⟩ := hr0 i (l.getD i z) hC.2 (by rw [List.getElem?_eq_getElem hC.1, List.getD_eq_getElem?_getD, List.getElem?_eq_getElem hC.1]; rfl)
              obtain ⟨v, hv, hd⟩ := takeD_sound (P := P) (hT _ _ h1) hh q2 hy
              refine ⟨v, yields_of ?_, by simpa only [VR] using hd⟩
              simpa only [Instr.loadAt, e, Instr.sureAddr, Sem.run_bind, Sem.run_pure, Result.andThen_ok] using hv
            · cases h
        · cases h
      · cases h
    · rename_i td cs o h1 h2
      split at h
      · rename_i u hu
        simp only [Option.some.injEq, Prod.mk.injEq] at h; obtain ⟨rfl, rfl⟩ := h
        rw [h2] at hy
        simp only [VR, DR] at hy
        obtain ⟨b, off, arr, ty', fz, e, hb, hh, hl⟩ := hy
        obtain ⟨v, hv, hd⟩ := takeD_sound (P := P) (hT _ _ h1) hh hl hu
        refine ⟨v, yields_of ?_, by simpa only [VR] using hd⟩
        simpa only [Instr.loadAt, e, Instr.sureAddr, Sem.run_bind, Sem.run_pure, Result.andThen_ok] using hv
      · cases h
    · cases h
  case extract y i =>
    have hy := ho y (by simp)
    split at h
    · rename_i cs hc
      split at h
      · rename_i c hi
        simp only [Option.some.injEq, Prod.mk.injEq] at h; obtain ⟨rfl, rfl⟩ := h
        rw [hc] at hy
        simp only [VR, DR] at hy
        obtain ⟨arr, e, hl, hy⟩ := hy
        rw [headD_spec] at hi
        obtain ⟨v, hv, hd⟩ := DRT_iff.1 hy i c hi
        simp only [Nat.zero_add] at hv
        refine ⟨v, yields_of ?_, by simpa only [VR] using hd⟩
        simp [Instr.extract, e, hv]
      · cases h
    · rename_i cs hc
      split at h
      · rename_i c hi
        simp only [Option.some.injEq, Prod.mk.injEq] at h; obtain ⟨rfl, rfl⟩ := h
        rw [hc] at hy
        simp only [VR] at hy
        obtain ⟨arr, e, hl, hy⟩ := hy
        rw [headV_spec] at hi
        obtain ⟨v, hv, hd⟩ := VRT_iff.1 hy i c hi
        simp only [Nat.zero_add] at hv
        refine ⟨v, yields_of ?_, hd⟩
        simp [Instr.extract, e, hv]
      · cases h
    · cases h
  case slice t y lo hi mx =>
    split at h
    · rename_i td h1
      have hy := ho y (by simp)
      have o1 : ∀ z, lo = some z → VR io F w (s.opd z) (ev z) := fun z e => ho z (by simp [e])
      have o2 : ∀ z, hi = some z → VR io F w (s.opd z) (ev z) := fun z e => ho z (by simp [e])
      have o3 : ∀ z, mx = some z → VR io F w (s.opd z) (ev z) := fun z e => ho z (by simp [e])
      split at h
      · rename_i e hd
        split at h
        · rename_i ed hed
          split at h
          · rename_i l h' g e1 e2 e3
            obtain ⟨u, hr, hv⟩ := sliceQ_sound (P := P) (hT _ _ h1) hd (hT _ _ hed) hy (lo.map ev) (hi.map ev) (mx.map ev) l h' g (optI_sound o1 e1) (optI_sound o2 e2) (optI_sound o3 e3) h hC
            exact ⟨u, yields_of hr, hv⟩
          · cases h
        · cases h
      · rename_i hd
        split at h
        · rename_i b l h' hx e1 e2
          rw [hx] at hy
          simp only [VR, DR] at hy
          obtain ⟨u, hr, hv⟩ := strQ_sound (P := P) (io := io) (F := F) (w := w) (hT _ _ h1) hd (lo.map ev) (hi.map ev) l h' (optI_sound o1 e1) (optI_sound o2 e2) h hC
          refine ⟨u, yields_of ?_, hv⟩
          rw [hy]; exact hr
        · cases h
      · cases h
    · cases h
  case nilCheck y =>
    have hy := ho y (by simp)
    split at h <;> (try (cases h; done)) <;> rename_i hk <;> simp only [Option.some.injEq, Prod.mk.injEq] at h <;> obtain ⟨rfl, rfl⟩ := h <;> rw [hk] at hy
    · have h2 := hy
      simp only [VR] at h2
      obtain ⟨b, _, e⟩ := h2
      exact ⟨ev y, by simp [execOp, e], hy⟩
    · have h2 := hy
      simp only [VR] at h2
      obtain ⟨b, _, e⟩ := h2
      exact ⟨ev y, by simp [execOp, e], hy⟩
    · have h2 := hy
      simp only [VR, DR] at h2
      obtain ⟨b, off, arr, ty', fz, e, _⟩ := h2
      exact ⟨ev y, by simp [execOp, e], hy⟩
  case build t parts =>
    split at h
    · rename_i td h1
      split at h
      · rename_i fs hf
        split at h
        · rename_i z ha hz
          split at h
          · rename_i cells hc
            rw [openL_eq] at h
            simp only [Option.some.injEq, Prod.mk.injEq] at h; obtain ⟨rfl, rfl⟩ := h
            obtain ⟨v, hr, hv⟩ := run_buildStruct (P := P) (io := io) (F := F) (w := w) hT h1 hf ha hz hc (vals := parts.map fun (i, x) => (i, ev x)) (by simp) (fun j i x v i' hp hq => by
              simp only [List.getElem?_map, Array.toList_map, Option.map_eq_some_iff] at hp hq
              obtain ⟨p, hp1, hp2⟩ := hp
              obtain ⟨q, hq1, hq2⟩ := hq
              rw [hp1] at hq1
              cases hq1
              cases hp2
              cases hq2
              exact ⟨rfl, ho _ (by simp only [List.mem_map]; exact ⟨p, List.mem_of_getElem? hp1, rfl⟩)⟩)
            exact ⟨v, yields_of hr, hv⟩
          · cases h
        · cases h
      · cases h
    · cases h
  case makeFunc fn first captured =>
    cases fn <;> simp only at h <;> try (cases h; done)
    rename_i f
    split at h
    · rename_i hf
      have hf : first = #[] := by cases first; simpa using hf
      subst hf
      have hcap : ∀ i c, (captured.toList.map s.opd)[i]? = some c → ∃ v, (captured.map ev)[0 + i]? = some v ∧ VR io F w c v := fun i c hi => by
        rw [List.getElem?_map, Option.map_eq_some_iff] at hi
        obtain ⟨y, hy, rfl⟩ := hi
        refine ⟨ev y, by simpa [Nat.zero_add] using ⟨y, by simpa using hy, rfl⟩, ho y ?_⟩
        simp only [Array.toList_append, List.nil_append]
        exact List.mem_of_getElem? hy
      have run : (execOp ev ⟨dst, .makeFunc (.func f) #[] captured, ty, pos, after, guard⟩).run P w = .ok (.value (.func (.func f) #[] (captured.map ev))) w := by simp [execOp, Instr.makeFunc]
      refine ⟨_, run, ?_⟩
      split at h
      · rename_i ds hds
        split at h
        · rename_i hall
          simp only [Option.some.injEq, Prod.mk.injEq] at h; obtain ⟨rfl, rfl⟩ := h
          have hm := allD_map hds
          simp only [VR, DR]
          refine ⟨_, rfl, by have := congrArg List.length hm; simpa using this, ?_⟩
          rw [DRA_iff]
          intro i c hi
          obtain ⟨v, g1, g2⟩ := hcap i (.d c) (by rw [hm, List.getElem?_map, hi]; rfl)
          exact ⟨v, g1, VR.one (List.all_eq_true.1 hall c (List.mem_of_getElem? hi)) g2, by simpa only [VR] using g2⟩
        · cases h
      · split at h
        · rename_i hall
          rw [openL_eq] at h
          simp only [Option.some.injEq, Prod.mk.injEq] at h; obtain ⟨rfl, rfl⟩ := h
          simp only [VR]
          refine ⟨_, rfl, by simp, ?_⟩
          rw [VRA_iff]
          intro i c hi
          obtain ⟨v, g1, g2⟩ := hcap i c hi
          exact ⟨v, g1, VR.one (List.all_eq_true.1 hall c (List.mem_of_getElem? hi)) g2, g2⟩
        · cases h
    · cases h
  case call c =>
    obtain ⟨callee, args, argTypes⟩ := c
    simp only at h
    split at h
    · rename_i y t hargs htys
      have ha : args = #[y] := by cases args; simpa using hargs
      subst ha
      have hy := ho y (by simp [Call.operands])
      have run : ∀ n : Nat, (Builtin.len_ argTypes ty #[ev y]).run P w = .ok (.int .i64 n) w → (execOp ev ⟨dst, .call ⟨.builtin .len, #[y], argTypes⟩, ty, pos, after, guard⟩).run P w = .ok (.value (.int .i64 n)) w := fun n hn => by
        simp [execOp, resolve, invoke, builtin, hn]
      have htt : argTypes[0]? = some t := htys
      have hgd : argTypes.getD 0 0 = t := by rw [Array.getD_eq_getD_getElem?, htt]; rfl
      split at h
      · rename_i td b htd hx
        split at h
        · rename_i hd
          simp only [Option.some.injEq, Prod.mk.injEq] at h; obtain ⟨rfl, rfl⟩ := h
          rw [hx] at hy; simp only [VR, DR] at hy
          refine ⟨.int .i64 b.length, run _ ?_, by simp only [VR, DR]⟩
          have hu := (hT _ _ htd).runU w
          rw [hd] at hu
          simp [Builtin.len_, htt, hu, hy, size_mk]; try rfl
        · cases h
      · rename_i td sz α en z l htd hx
        split at h
        · rename_i hd
          simp only [Option.some.injEq, Prod.mk.injEq] at h; obtain ⟨rfl, rfl⟩ := h
          rw [hx] at hy; simp only [VR, DR] at hy
          refine ⟨.int .i64 l.length, run _ ?_, by simp only [VR, DR]⟩
          have hu := (hT _ _ htd).runU w
          rw [hd] at hu
          rcases hy with ⟨⟨p, c0, e⟩, rfl⟩ | ⟨b, off, cap, arr, ty', fz, e, _⟩
          · simp [Builtin.len_, htt, hu, e]; try rfl
          · simp [Builtin.len_, htt, hu, e]; try rfl
        · cases h
      · rename_i td htd hx
        split at h
        · rename_i hd
          simp only [Option.some.injEq, Prod.mk.injEq] at h; obtain ⟨rfl, rfl⟩ := h
          rw [hx] at hy; simp only [VR, DR] at hy
          refine ⟨.int .i64 ((0 : Nat) : Int), run 0 ?_, by simp only [VR, DR]; rfl⟩
          have hu := (hT _ _ htd).runU w
          rw [hd] at hu
          simp [Builtin.len_, htt, hu, hy]; try rfl
        · cases h
      · rename_i td k o n ty' sz htd hx
        split at h
        · rename_i hd
          simp only [Option.some.injEq, Prod.mk.injEq] at h; obtain ⟨rfl, rfl⟩ := h
          rw [hx] at hy; simp only [VR] at hy
          refine ⟨.int .i64 n, run _ ?_, by simp only [VR, DR]⟩
          have hu := (hT _ _ htd).runU w
          rw [hd] at hu
          rcases hy with ⟨_, e, rfl, _⟩ | ⟨b, cap, arr, _, e, _⟩
          · simp [Builtin.len_, htt, hu, e]; try rfl
          · simp [Builtin.len_, htt, hu, e]; try rfl
        · cases h
      · cases h
    · rename_i y z hargs
      have ha : args = #[y, z] := by cases args; simpa using hargs
      subst ha
      have hy := ho y (by simp [Call.operands])
      have hz := ho z (by simp [Call.operands])
      split at h
      · rename_i k a k' b h1 h2
        simp only [Option.some.injEq, Prod.mk.injEq] at h; obtain ⟨rfl, rfl⟩ := h
        rw [h1] at hy; rw [h2] at hz; simp only [VR, DR] at hy hz
        refine ⟨.int k (max a b), ?_, by simp only [VR, DR]⟩
        have e : (if b > a then b else a) = max a b := by split <;> omega
        have e' : (if b > a then Value.int k b else Value.int k a) = .int k (max a b) := by rw [← e]; split <;> rfl
        simp [execOp, resolve, invoke, builtin, Builtin.max_, hy, hz, Builtin.max2]
        try omega
      · cases h
    · rename_i y z hargs
      have ha : args = #[y, z] := by cases args; simpa using hargs
      subst ha
      have hy := ho y (by simp [Call.operands])
      have hz := ho z (by simp [Call.operands])
      split at h
      · rename_i k a k' b h1 h2
        simp only [Option.some.injEq, Prod.mk.injEq] at h; obtain ⟨rfl, rfl⟩ := h
        rw [h1] at hy; rw [h2] at hz; simp only [VR, DR] at hy hz
        refine ⟨.int k (min a b), ?_, by simp only [VR, DR]⟩
        have e : (if b < a then b else a) = min a b := by split <;> omega
        have e' : (if b < a then Value.int k b else Value.int k a) = .int k (min a b) := by rw [← e]; split <;> rfl
        simp [execOp, resolve, invoke, builtin, Builtin.min_, hy, hz, Builtin.min2]
        try omega
      · cases h
    · cases h
end Go.Vw
