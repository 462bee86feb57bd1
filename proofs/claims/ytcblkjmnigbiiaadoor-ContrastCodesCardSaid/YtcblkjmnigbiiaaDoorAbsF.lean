/-
  Growing memory; blocks of the call's own that are made, written and appended to. Conditions: the table of types is the program's.
-/
import Derived.Test.YtcblkjmnigbiiaaDoorAbsE
set_option autoImplicit false
set_option linter.unusedSimpArgs false
namespace Go.Ab
open Go.RowKit

theorem shapes_of_below {w w' : World} (hb : Below w.heap.size w w') : Shapes w w' := fun b arr ty fz h => by
  have : b < w.heap.size := (Array.getElem?_eq_some_iff.1 h).1
  exact ⟨arr, (hb.block b this).trans h, rfl⟩

theorem lt_of_heap {w : World} {b : Nat} {o : Obj} (h : w.heap[b]? = some o) : b < w.heap.size := (Array.getElem?_eq_some_iff.1 h).1

theorem SR.grow {X : Ctx} {io : Nat → Option Nat} {F F' : Nat → Prop} {s : St} {a : Act} {w w' : World} (hs : SR X io F s a w) (hb : Below w.heap.size w w') (hF : ∀ b, F b → F' b) (hN : ∀ b, F' b → F b ∨ (w.heap.size ≤ b ∧ b < w'.heap.size)) : SR X io F' s a w' := by
  have hst : Stays F w w' := fun b h => hb.block b (hs.ff b h).1
  have hsh := shapes_of_below hb
  have hne : ∀ b o, w.heap[b]? = some o → ¬ F b → ¬ F' b := fun b o h hn hf => by
    rcases hN b hf with h' | h'
    · exact hn h'
    · have := lt_of_heap h; omega
  refine ⟨⟨hb.os.trans hs.kept.os, hb.tape.trans hs.kept.tape, hb.output.trans hs.kept.output, Nat.le_trans hs.kept.size hb.size, fun b h1 h2 => (hb.block b (Nat.lt_of_lt_of_le h1 hs.kept.size)).trans (hs.kept.block b h1 h2)⟩,
    fun t => VR.mono (fun _ => rfl) hF hst hsh _ _ (hs.tm t), hs.nt, hs.df, fun k b hk => ?_, hs.inj, fun b h => ?_, fun b h => hF b (hs.f0 b h)⟩
  · have := hs.bl k b hk
    cases b with
    | data ty cells =>
      simp only [BR] at this ⊢
      rcases this with h | ⟨b, arr, vals, h1, h2, h3, h4, h5, h6⟩
      · exact .inl h
      · exact .inr ⟨b, arr, vals, h1, hne b _ h4 h2, h3, (hb.block b (lt_of_heap h4)).trans h4, h5, DRL.mono hF hst _ _ h6⟩
    | box ty cells =>
      simp only [BR] at this ⊢
      obtain ⟨b, arr, vals, h1, h2, h3, h4, h5, h6⟩ := this
      exact ⟨b, arr, vals, h1, hne b _ h4 h2, h3, (hb.block b (lt_of_heap h4)).trans h4, h5, VRL.mono (fun _ => rfl) hF hst hsh _ _ h6⟩
  · rcases hN b h with h' | h'
    · exact ⟨Nat.lt_of_lt_of_le (hs.ff b h').1 hb.size, (hs.ff b h').2⟩
    · exact ⟨h'.2, .inr (Nat.le_trans hs.kept.size h'.1)⟩

theorem below_alloc (w : World) (o : Obj) : Below w.heap.size w (w.alloc o) := (Below.refl _ _).alloc (Nat.le_refl _) _
theorem below_drew (w : World) : Below w.heap.size w w.drew := (Below.refl _ _).drew

theorem SR.drew {X : Ctx} {io : Nat → Option Nat} {F : Nat → Prop} {s : St} {a : Act} {w : World} (hs : SR X io F s a w) : SR X io F s a w.drew :=
  hs.grow (below_drew w) (fun _ h => h) (fun _ h => .inl h)

/-! ## A key is given up -/

mutual
def V.kill (k : Nat) : V → V
  | .own k' n ty sz => bif Nat.beq k' k then .d .undef else .own k' n ty sz
  | .ptr k' o => bif Nat.beq k' k then .d .undef else .ptr k' o
  | .agg cs => .agg (V.killL k cs)
  | .fn f cs => .fn f (V.killL k cs)
  | x => x
def V.killL (k : Nat) : List V → List V
  | [] => []
  | x :: xs => V.kill k x :: V.killL k xs
end

theorem beq_ne {a b : Nat} (h : Nat.beq a b = false) : a ≠ b := fun e => by subst e; simp at h

mutual
theorem VR.kill {io io' : Nat → Option Nat} {F : Nat → Prop} {w : World} {k : Nat} (hi : ∀ j, j ≠ k → io' j = io j) : ∀ (x : V) (v : Value), VR io F w x v → VR io' F w (x.kill k) v
  | .d x, v, h => by simp only [V.kill, VR] at h ⊢; exact h
  | .own k' n ty sz, v, h => by
      simp only [V.kill]
      cases hb : Nat.beq k' k with
      | true => simp only [cond_true, VR, DR]
      | false =>
        simp only [cond_false, VR] at h ⊢
        rw [hi k' (beq_ne hb)]; exact h
  | .ptr k' o, v, h => by
      simp only [V.kill]
      cases hb : Nat.beq k' k with
      | true => simp only [cond_true, VR, DR]
      | false =>
        simp only [cond_false, VR] at h ⊢
        rw [hi k' (beq_ne hb)]; exact h
  | .iptr cs o, v, h => by simp only [V.kill, VR] at h ⊢; exact h
  | .agg cs, v, h => by simp only [V.kill, VR] at h ⊢; obtain ⟨a, e, h⟩ := h; exact ⟨a, e, VRL.kill hi cs _ h⟩
  | .fn f cs, v, h => by simp only [V.kill, VR] at h ⊢; obtain ⟨a, e, h⟩ := h; exact ⟨a, e, VRL.kill hi cs _ h⟩
theorem VRL.kill {io io' : Nat → Option Nat} {F : Nat → Prop} {w : World} {k : Nat} (hi : ∀ j, j ≠ k → io' j = io j) : ∀ (xs : List V) (vs : List Value), VRL io F w xs vs → VRL io' F w (V.killL k xs) vs
  | [], _, h => by simp only [V.killL, VRL] at h ⊢; exact h
  | x :: xs, _, h => by
      simp only [V.killL, VRL] at h ⊢
      obtain ⟨v, rest, e, h0, h1, h2⟩ := h
      exact ⟨v, rest, e, h0, VR.kill hi x v h1, VRL.kill hi xs rest h2⟩
end

def Blk.kill (k : Nat) : Blk → Blk
  | .data ty cs => .data ty cs
  | .box ty cs => .box ty (V.killL k cs)

def St.kill (k : Nat) (s : St) : St :=
  { tmps := fun t => (s.tmps t).kill k, blk := fun j => bif Nat.beq j k then none else match s.blk j with | some b => some (b.kill k) | none => none }

def updio (io : Nat → Option Nat) (k : Nat) (b : Option Nat) : Nat → Option Nat := fun j => bif Nat.beq j k then b else io j
theorem updio_same (io : Nat → Option Nat) (k : Nat) (b : Option Nat) : updio io k b k = b := by simp [updio]
theorem updio_ne (io : Nat → Option Nat) {k j : Nat} (b : Option Nat) (h : j ≠ k) : updio io k b j = io j := by
  unfold updio
  cases hb : Nat.beq j k with
  | true => exact absurd (Nat.eq_of_beq_eq_true hb) h
  | false => rfl

theorem kill_blk {s : St} {k j : Nat} {b : Blk} (h : (s.kill k).blk j = some b) : j ≠ k ∧ ∃ b0, s.blk j = some b0 ∧ b = b0.kill k := by
  simp only [St.kill] at h
  cases hb : Nat.beq j k with
  | true => rw [hb] at h; simp at h
  | false =>
    rw [hb] at h
    simp only [cond_false] at h
    split at h
    · rename_i b0 h0
      simp at h
      exact ⟨beq_ne hb, b0, h0, h.symm⟩
    · cases h

theorem SR.kill {X : Ctx} {io : Nat → Option Nat} {F : Nat → Prop} {s : St} {a : Act} {w : World} (hs : SR X io F s a w) (k : Nat) (b : Option Nat) : SR X (updio io k b) F (s.kill k) a w := by
  have hi : ∀ j, j ≠ k → updio io k b j = io j := fun j h => updio_ne io b h
  refine ⟨hs.kept, fun t => VR.kill hi _ _ (hs.tm t), hs.nt, hs.df, fun j b' hj => ?_, fun j j' c h1 h2 e1 e2 => ?_, hs.ff, hs.f0⟩
  · obtain ⟨hne, b0, h0, rfl⟩ := kill_blk hj
    have := hs.bl j b0 h0
    cases b0 with
    | data ty cells => simp only [BR, Blk.kill, hi j hne] at this ⊢; exact this
    | box ty cells =>
      simp only [BR, Blk.kill, hi j hne] at this ⊢
      obtain ⟨c, arr, vals, h1, h2, h3, h4, h5, h6⟩ := this
      exact ⟨c, arr, vals, h1, h2, h3, h4, h5, VRL.kill hi _ _ h6⟩
  · obtain ⟨b1, hb1⟩ := Option.ne_none_iff_exists'.1 h1
    obtain ⟨b2, hb2⟩ := Option.ne_none_iff_exists'.1 h2
    obtain ⟨n1, c1, g1, _⟩ := kill_blk hb1
    obtain ⟨n2, c2, g2, _⟩ := kill_blk hb2
    rw [hi j n1] at e1
    rw [hi j' n2] at e2
    exact hs.inj j j' c (by rw [g1]; simp) (by rw [g2]; simp) e1 e2

/-- A block under a key of its own. -/
def St.withBlk (s : St) (k : Nat) (b : Blk) : St := { s with blk := fun j => bif Nat.beq j k then some b else s.blk j }
def St.new (s : St) (k : Nat) (b : Blk) : St := (s.kill k).withBlk k b

theorem withBlk_ne {s : St} {k j : Nat} {b : Blk} (h : j ≠ k) : (s.withBlk k b).blk j = s.blk j := by
  simp only [St.withBlk]
  cases hb : Nat.beq j k with
  | true => exact absurd (Nat.eq_of_beq_eq_true hb) h
  | false => rfl
theorem withBlk_same {s : St} {k : Nat} {b : Blk} : (s.withBlk k b).blk k = some b := by simp [St.withBlk]

/-- The state with one block laid anew, where the world below is known. -/
theorem SR.setBlk {X : Ctx} {io : Nat → Option Nat} {F : Nat → Prop} {s : St} {a : Act} {w : World} (hs : SR X io F s a w) {k : Nat} {b : Blk} (hb : BR X io F w k b) (hinj : ∀ j c, j ≠ k → s.blk j ≠ none → io j = some c → io k = some c → False) : SR X io F (s.withBlk k b) a w := by
  refine ⟨hs.kept, hs.tm, hs.nt, hs.df, fun j b' hj => ?_, fun j j' c h1 h2 e1 e2 => ?_, hs.ff, hs.f0⟩
  · by_cases h : j = k
    · subst h; rw [withBlk_same] at hj; cases hj; exact hb
    · rw [withBlk_ne h] at hj; exact hs.bl j b' hj
  · by_cases h : j = k
    · by_cases h' : j' = k
      · rw [h, h']
      · subst h
        rw [withBlk_ne h'] at h2
        exact (hinj j' c h' h2 e2 e1).elim
    · by_cases h' : j' = k
      · subst h'
        rw [withBlk_ne h] at h1
        exact (hinj j c h h1 e1 e2).elim
      · rw [withBlk_ne h] at h1; rw [withBlk_ne h'] at h2
        exact hs.inj j j' c h1 h2 e1 e2

theorem blk_lt {X : Ctx} {io : Nat → Option Nat} {F : Nat → Prop} {s : St} {a : Act} {w : World} (hs : SR X io F s a w) {j c : Nat} (h : s.blk j ≠ none) (e : io j = some c) : c < w.heap.size := by
  obtain ⟨b, hb⟩ := Option.ne_none_iff_exists'.1 h
  have := hs.bl j b hb
  cases b with
  | data ty cells =>
    simp only [BR] at this
    rcases this with ⟨h, _⟩ | ⟨b, arr, vals, h1, _, _, h4, _⟩
    · rw [h] at e; cases e
    · rw [h1] at e; cases e; exact lt_of_heap h4
  | box ty cells =>
    simp only [BR] at this
    obtain ⟨b, arr, vals, h1, _, _, h4, _⟩ := this
    rw [h1] at e; cases e; exact lt_of_heap h4

/-- A new row for a key. -/
theorem SR.newBlk {X : Ctx} {io : Nat → Option Nat} {F : Nat → Prop} {s : St} {a : Act} {w : World} (hs : SR X io F s a w) (k : Nat) (ty : TypeId) (arr : Array Value) (b : Blk) (vals : List Value) (hr : RowAt arr 0 vals)
    (hb : (∃ cs, b = .data ty cs ∧ DRL F w cs vals) ∨ (∃ cs, b = .box ty cs ∧ VRL (updio io k (some w.heap.size)) F w cs vals)) :
    SR X (updio io k (some w.heap.size)) F (s.new k b) a (w.alloc (.cells arr ty)) := by
  have h1 := (hs.kill k (some w.heap.size)).grow (below_alloc w (.cells arr ty)) (fun _ h => h) (fun _ h => .inl h)
  have hst : Stays F w (w.alloc (.cells arr ty)) := fun b h => (below_alloc w (.cells arr ty)).block b (hs.ff b h).1
  have hsh := shapes_of_below (below_alloc w (.cells arr ty))
  have hnF : ¬ F w.heap.size := fun h => by have := (hs.ff _ h).1; omega
  have hheap : (w.alloc (.cells arr ty)).heap[w.heap.size]? = some (.cells arr ty (0, 0)) := heap_alloc_new w _
  refine SR.setBlk h1 ?_ fun j c hne hj e1 e2 => ?_
  · rcases hb with ⟨cs, rfl, hd⟩ | ⟨cs, rfl, hd⟩
    · simp only [BR]
      exact .inr ⟨w.heap.size, arr, vals, updio_same _ _ _, hnF, .inr hs.kept.size, hheap, hr, DRL.mono (fun _ h => h) hst _ _ hd⟩
    · simp only [BR]
      exact ⟨w.heap.size, arr, vals, updio_same _ _ _, hnF, .inr hs.kept.size, hheap, hr, VRL.mono (fun _ => rfl) (fun _ h => h) hst hsh _ _ hd⟩
  · rw [updio_same] at e2
    cases e2
    have := blk_lt (hs.kill k (some w.heap.size)) hj e1
    omega

theorem rowAt_self (arr : Array Value) : RowAt arr 0 arr.toList := fun j v h => by simpa using h
theorem rowAt_toArray (l r : List Value) : RowAt (l ++ r).toArray 0 l := fun j v h => by
  have : j < l.length := (List.getElem?_eq_some_iff.1 h).1
  simp [List.getElem?_append_left this, h]
end Go.Ab
