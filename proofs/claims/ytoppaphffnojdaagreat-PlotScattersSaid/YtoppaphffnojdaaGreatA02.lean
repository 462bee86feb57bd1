/-
  Contracts of functions of the program, and the layer that they are walked with: VG VH VI VJ VK VL. Conditions: as each says.
-/
import Derived.Test.YtoppaphffnojdaaGreatA01
set_option linter.unnecessarySimpa false
/-
  Growing memory; blocks of the call's own that are made, written and given away. Conditions: the table of types is the program's.
-/
set_option linter.unusedSimpArgs false
set_option linter.unusedSectionVars false
namespace Go.Vw
open Go.RowKit

theorem shapes_of_below {w w' : World} (hb : Below w.heap.size w w') : Shapes w w' := fun b arr ty fz h => by
  have : b < w.heap.size := (Array.getElem?_eq_some_iff.1 h).1
  exact ⟨arr, (hb.block b this).trans h, rfl⟩

theorem LRA.mono {F F' : Nat → Prop} {w w' : World} (hF : ∀ b, F b → F' b) (hs : Stays F w w') {g : Nat → Option Value} {off sz : Nat} {α : Type} {e : α → List D} {l : List α} (h : LRA F w g off sz e l) : LRA F' w' g off sz e l := fun i a hi => ⟨(h i a hi).1, DRA.mono hF hs _ _ _ (h i a hi).2⟩

section
variable {io io' : Keys} {F F' : Nat → Prop} {w w' : World} (hi : ∀ k, io'.io k = io.io k ∧ io.ln k ≤ io'.ln k) (hF : ∀ b, F b → F' b) (hs : Stays F w w') (hsh : Shapes w w')
include hi hF hs hsh
theorem DfR.mono : ∀ (l : List (FuncId × List V)) (ds : List Deferred), DfR io F w l ds → DfR io' F' w' l ds
  | [], _, h => h
  | (_, _) :: r, _, ⟨arr, rest, e, hl, h, h'⟩ => ⟨arr, rest, e, hl, VRA.mono hi hF hs hsh _ _ _ h, DfR.mono r _ h'⟩
end

theorem HRA.mono {io io' : Keys} {F F' : Nat → Prop} {w w' : World} (hi : ∀ k, io'.io k = io.io k ∧ io.ln k ≤ io'.ln k) (hF : ∀ b, F b → F' b) (hs : Stays F w w') (hsh : Shapes w w') {g : Nat → Option Value} {sz : Nat} {α : Type} {e : α → List D} {v : V} {i : Nat} {l : List α} (h : HRA io F w g sz e i v l) : HRA io' F' w' g sz e i v l := by
  obtain ⟨h0, h1, u, h2, h2', h3⟩ := h
  exact ⟨fun j a hj ha => ⟨(h0 j a hj ha).1, DRA.mono hF hs _ _ _ (h0 j a hj ha).2⟩, h1, u, h2, h2', VR.mono hi hF hs hsh _ _ h3⟩
theorem BR.mono {A : Nat → Prop} {n0 : Nat} {io io' : Keys} {F F' : Nat → Prop} {w w' : World} (hi : ∀ k, io'.io k = io.io k ∧ io.ln k ≤ io'.ln k) (hF : ∀ b, F b → F' b) (hs : Stays F w w') (hsh : Shapes w w') {k : Nat} (hk : ∀ b o, io.io k = some b → w.heap[b]? = some o → ¬ F b → w'.heap[b]? = some o ∧ ¬ F' b) : ∀ {b : Blk}, BR A n0 io F w k b → BR A n0 io' F' w' k b
  | .data ty sz e z l, h => by
    simp only [BR] at h ⊢
    rw [(hi _).1]
    rcases h with h | ⟨b, arr, h1, h2, h3, h4, h5⟩
    · exact .inl h
    · obtain ⟨g1, g2⟩ := hk b _ h1 h4 h2
      exact .inr ⟨b, arr, h1, g2, h3, g1, LRA.mono hF hs h5⟩
  | .box ty cells, h => by
    simp only [BR] at h ⊢
    rw [(hi _).1]
    obtain ⟨b, arr, h1, h2, h3, h4, h5⟩ := h
    obtain ⟨g1, g2⟩ := hk b _ h1 h4 h2
    exact ⟨b, arr, h1, g2, h3, g1, VRA.mono hi hF hs hsh _ _ _ h5⟩
  | .vec ty cells, h => by
    simp only [BR] at h ⊢
    rw [(hi _).1]
    obtain ⟨b, arr, h1, h2, h3, h4, h5⟩ := h
    obtain ⟨g1, g2⟩ := hk b _ h1 h4 h2
    exact ⟨b, arr, h1, g2, h3, g1, VRA.mono hi hF hs hsh _ _ _ h5⟩
  | .hole ty sz e z l i v, h => by
    simp only [BR] at h ⊢
    rw [(hi _).1]
    obtain ⟨b, arr, h1, h2, h3, h4, h5⟩ := h
    obtain ⟨g1, g2⟩ := hk b _ h1 h4 h2
    exact ⟨b, arr, h1, g2, h3, g1, HRA.mono hi hF hs hsh h5⟩

theorem Kept.below {A : Nat → Prop} {w0 w w' : World} (h : Kept A w0 w) (hb : Below w.heap.size w w') : Kept A w0 w' :=
  ⟨hb.os.trans h.os, hb.tape.trans h.tape, hb.output.trans h.output, Nat.le_trans h.size hb.size, fun b h1 h2 => (hb.block b (Nat.lt_of_lt_of_le h1 h.size)).trans (h.block b h1 h2), h.shape.trans (shapes_of_below hb)⟩

theorem SR.grow {X : Ctx} {io : Nat → Option Nat} {F F' : Nat → Prop} {s : St} {a : Act} {w w' : World} (hs : SR X io F s a w) (hb : Below w.heap.size w w') (hF : ∀ b, F b → F' b) (hN : ∀ b, F' b → F b ∨ (w.heap.size ≤ b ∧ b < w'.heap.size)) : SR X io F' s a w' := by
  have hst : Stays F w w' := fun b h => hb.block b (hs.ff b h).1
  have hsh := shapes_of_below hb
  have hne : ∀ b o, w.heap[b]? = some o → ¬ F b → ¬ F' b := fun b o h hn hf => by
    rcases hN b hf with h' | h'
    · exact hn h'
    · have := lt_of_heap h; omega
  refine ⟨hs.kept.below hb, fun t => VR.mono (fun _ => ⟨rfl, Nat.le_refl _⟩) hF hst hsh _ _ (hs.tm t), hs.nt, DfR.mono (fun _ => ⟨rfl, Nat.le_refl _⟩) hF hst hsh _ _ hs.df, fun k b hk => BR.mono (fun _ => ⟨rfl, Nat.le_refl _⟩) hF hst hsh (fun b o _ h1 h2 => ⟨(hb.block b (lt_of_heap h1)).trans h1, hne b o h1 h2⟩) (hs.bl k b hk), hs.inj, fun b h => ?_, fun b h => hF b (hs.f0 b h), hs.st⟩
  rcases hN b h with h' | h'
  · exact ⟨Nat.lt_of_lt_of_le (hs.ff b h').1 hb.size, (hs.ff b h').2⟩
  · exact ⟨h'.2, .inr (.inl (Nat.le_trans hs.kept.size h'.1))⟩

theorem below_alloc (w : World) (o : Obj) : Below w.heap.size w (w.alloc o) := (Below.refl _ _).alloc (Nat.le_refl _) _
theorem below_drew (w : World) : Below w.heap.size w w.drew := (Below.refl _ _).drew

theorem SR.drew {X : Ctx} {io : Nat → Option Nat} {F : Nat → Prop} {s : St} {a : Act} {w : World} (hs : SR X io F s a w) : SR X io F s a w.drew :=
  hs.grow (below_drew w) (fun _ h => h) (fun _ h => .inl h)

/-! ## A key is given up, or its block given away -/

def subOwn (b : Option Blk) (o n : Nat) (sz : Nat) : D :=
  match b with
  | some (.data _ sz' e z l) => match Nat.beq sz sz' with
    | true => .sl sz' e z (cut o n l)
    | false => .undef
  | _ => .undef
def subPtr (b : Option Blk) (o : Nat) : D :=
  match b with
  | some (.box _ cells) => match allD cells with | some ds => .ptr ds o | none => .undef
  | _ => .undef

mutual
def V.sub (k : Nat) (b : Option Blk) : V → V
  | .own k' o n ty sz => bif Nat.beq k' k then .d (subOwn b o n sz) else .own k' o n ty sz
  | .ptr k' o => bif Nat.beq k' k then .d (subPtr b o) else .ptr k' o
  | .eptr k' sz i f => bif Nat.beq k' k then .d .undef else .eptr k' sz i f
  | .agg cs => .agg (V.subL k b cs)
  | .tup cs => .tup (V.subL k b cs)
  | .fn f cs => .fn f (V.subL k b cs)
  | .d x => .d x
def V.subL (k : Nat) (b : Option Blk) : List V → List V
  | [] => []
  | x :: xs => V.sub k b x :: V.subL k b xs
end

theorem beq_ne {a b : Nat} (h : Nat.beq a b = false) : a ≠ b := fun e => by subst e; simp at h

theorem V.subL_eq (k : Nat) (b : Option Blk) : ∀ l : List V, V.subL k b l = l.map (V.sub k b)
  | [] => rfl
  | x :: xs => by simp [V.subL, V.subL_eq k b xs]

def SubOk (F : Nat → Prop) (w : World) (io : Keys) (k : Nat) : Option Blk → Prop
  | none => True
  | some (.data _ sz e _ l) => io.ln k = l.length ∧ ((io.io k = none ∧ l = []) ∨ ∃ b arr ty fz, io.io k = some b ∧ F b ∧ w.heap[b]? = some (.cells arr ty fz) ∧ LRA F w (fun j => arr[j]?) 0 sz e l)
  | some (.box _ cells) => ∀ ds, allD cells = some ds → ∃ b arr ty fz, io.io k = some b ∧ F b ∧ w.heap[b]? = some (.cells arr ty fz) ∧ DRA F w (fun j => arr[j]?) 0 ds
  | some (.hole ..) => True
  | some (.vec ..) => True

theorem subNone {F : Nat → Prop} {w : World} {io : Keys} {k : Nat} : SubOk F w io k none := trivial
theorem subOwn_sound {F : Nat → Prop} {w : World} {io : Keys} {k : Nat} {ob : Option Blk} (hk : SubOk F w io k ob) {o n : Nat} {ty : TypeId} {sz : Nat} {F0 : Nat → Prop} {v : Value} (h : VR io F0 w (.own k o n ty sz) v) : DR F w (subOwn ob o n sz) v := by
  unfold subOwn
  split
  · rename_i ty' sz' α e z l
    split
    · rename_i hsz
      have hsz := Nat.eq_of_beq_eq_true hsz
      subst hsz
      simp only [SubOk] at hk
      simp only [VR] at h
      simp only [DR]
      obtain ⟨hln, hk⟩ := hk
      rcases h with ⟨h0, rfl, rfl, rfl⟩ | ⟨b, cap, arr, h1, rfl, h3, h4, h5, h6, h7⟩
      · rcases hk with ⟨_, rfl⟩ | ⟨b, _, _, _, h1, _⟩
        · exact .inl (by rw [cut_eq]; simp)
        · rw [h0] at h1; cases h1
      · rcases hk with ⟨h0, _⟩ | ⟨b', arr', ty'', fz, g1, g2, g3, g4⟩
        · rw [h0] at h1; cases h1
        · rw [h1] at g1; cases g1
          have hz : (cut o n l).length = n := by rw [cut_eq]; simp; omega
          refine .inr ⟨b, o * sz, cap, arr', ty'', fz, by rw [hz], by rw [hz]; exact h3, g2, g3, fun i a hi => ?_⟩
          rw [cut_eq, List.getElem?_take] at hi
          split at hi
          · rw [List.getElem?_drop] at hi
            have := g4 _ a hi
            refine ⟨this.1, ?_⟩
            have h2 := this.2
            rwa [Nat.zero_add, Nat.add_mul] at h2
          · cases hi
    · simp only [DR]
  · simp only [DR]

theorem subPtr_sound {F : Nat → Prop} {w : World} {io : Keys} {k : Nat} {ob : Option Blk} (hk : SubOk F w io k ob) {o : Nat} {F0 : Nat → Prop} {v : Value} (h : VR io F0 w (.ptr k o) v) : DR F w (subPtr ob o) v := by
  unfold subPtr
  split
  · rename_i ty cells
    split
    · rename_i ds hds
      simp only [SubOk] at hk
      obtain ⟨b, arr, ty, fz, g1, g2, g3, g4⟩ := hk ds hds
      simp only [VR] at h
      obtain ⟨b', h1, rfl⟩ := h
      rw [g1] at h1; cases h1
      simp only [DR]
      exact ⟨b, 0, arr, ty, fz, by simp, g2, g3, g4⟩
    · simp only [DR]
  · simp only [DR]

section
variable {io io' : Keys} {F F' : Nat → Prop} {w : World} {k : Nat} {ob : Option Blk} (hi : ∀ j, j ≠ k → io'.io j = io.io j ∧ io.ln j ≤ io'.ln j) (hF : ∀ b, F b → F' b) (hk : SubOk F' w io k ob)
include hi hF hk
mutual
theorem VR.sub : ∀ (x : V) (v : Value), VR io F w x v → VR io' F' w (x.sub k ob) v
  | .d x, v, h => by simp only [V.sub, VR] at h ⊢; exact DR.mono hF (fun _ _ => rfl) _ _ h
  | .own k' o n ty sz, v, h => by
      simp only [V.sub]
      cases hb : Nat.beq k' k with
      | true =>
        have := Nat.eq_of_beq_eq_true hb
        subst this
        simp only [cond_true, VR]
        exact subOwn_sound hk h
      | false =>
        obtain ⟨h1, h2⟩ := hi k' (beq_ne hb)
        simp only [cond_false, VR] at h ⊢
        rw [h1]
        rcases h with h | ⟨b, cap, arr, g1, g2, g3, g4, g5, g6, g7⟩
        · exact .inl h
        · exact .inr ⟨b, cap, arr, g1, g2, g3, g4, g5, g6, Nat.le_trans g7 h2⟩
  | .ptr k' o, v, h => by
      simp only [V.sub]
      cases hb : Nat.beq k' k with
      | true =>
        have := Nat.eq_of_beq_eq_true hb
        subst this
        simp only [cond_true, VR]
        exact subPtr_sound hk h
      | false =>
        obtain ⟨h1, h2⟩ := hi k' (beq_ne hb)
        simp only [cond_false, VR] at h ⊢
        rw [h1]; exact h
  | .eptr k' sz i f, v, h => by
      simp only [V.sub]
      cases hb : Nat.beq k' k with
      | true => simp only [cond_true, VR, DR]
      | false =>
        obtain ⟨h1, h2⟩ := hi k' (beq_ne hb)
        simp only [cond_false, VR] at h ⊢
        rw [h1]; exact h
  | .agg cs, v, h => by simp only [V.sub, VR] at h ⊢; obtain ⟨a, e, l, h⟩ := h; exact ⟨a, e, by rw [V.subL_eq]; simpa using l, VRA.sub cs _ _ h⟩
  | .tup cs, v, h => by simp only [V.sub, VR] at h ⊢; obtain ⟨a, e, l, h⟩ := h; exact ⟨a, e, by rw [V.subL_eq]; simpa using l, VRT.sub cs _ _ h⟩
  | .fn f cs, v, h => by simp only [V.sub, VR] at h ⊢; obtain ⟨a, e, l, h⟩ := h; exact ⟨a, e, by rw [V.subL_eq]; simpa using l, VRA.sub cs _ _ h⟩
theorem VRA.sub : ∀ (xs : List V) (g : Nat → Option Value) (off : Nat), VRA io F w g off xs → VRA io' F' w g off (V.subL k ob xs)
  | [], _, _, _ => by simp only [V.subL, VRA]
  | x :: xs, g, off, h => by
      simp only [V.subL, VRA] at h ⊢
      obtain ⟨⟨v, e, h0, h1⟩, h2⟩ := h
      exact ⟨⟨v, e, h0, VR.sub x v h1⟩, VRA.sub xs _ _ h2⟩
theorem VRT.sub : ∀ (xs : List V) (g : Nat → Option Value) (off : Nat), VRT io F w g off xs → VRT io' F' w g off (V.subL k ob xs)
  | [], _, _, _ => by simp only [V.subL, VRT]
  | x :: xs, g, off, h => by
      simp only [V.subL, VRT] at h ⊢
      obtain ⟨⟨v, e, h1⟩, h2⟩ := h
      exact ⟨⟨v, e, VR.sub x v h1⟩, VRT.sub xs _ _ h2⟩
end
end

def Blk.ln : Blk → Nat
  | .data _ _ _ _ l => l.length
  | .box _ _ => 0
  | .hole _ _ _ _ l _ _ => l.length
  | .vec _ cs => cs.length
theorem ln_of {s : St} {k : Nat} {b : Blk} (h : s.blk k = some b) : s.ln k = b.ln := by unfold St.ln; rw [h]; cases b <;> rfl
def Blk.sub (k : Nat) (ob : Option Blk) : Blk → Blk
  | .data ty sz e z l => .data ty sz e z l
  | .box ty cs => .box ty (V.subL k ob cs)
  | .hole ty sz e z l i v => .hole ty sz e z l i (V.sub k ob v)
  | .vec ty cs => .vec ty (V.subL k ob cs)
def dfSub (k : Nat) (ob : Option Blk) : List (FuncId × List V) → List (FuncId × List V)
  | [] => []
  | (f, cs) :: r => (f, V.subL k ob cs) :: dfSub k ob r
def St.sub (s : St) (k : Nat) (ob : Option Blk) : St :=
  { tmps := fun t => (s.tmps t).sub k ob, blk := fun j => bif Nat.beq j k then none else match s.blk j with | some b => some (b.sub k ob) | none => none, dfs := dfSub k ob s.dfs }

def updio (io : Nat → Option Nat) (k : Nat) (b : Option Nat) : Nat → Option Nat := fun j => bif Nat.beq j k then b else io j
theorem updio_same (io : Nat → Option Nat) (k : Nat) (b : Option Nat) : updio io k b k = b := by simp [updio]
theorem updio_ne (io : Nat → Option Nat) {k j : Nat} (b : Option Nat) (h : j ≠ k) : updio io k b j = io j := by
  unfold updio
  cases hb : Nat.beq j k with
  | true => exact absurd (Nat.eq_of_beq_eq_true hb) h
  | false => rfl

theorem sub_blk {s : St} {k j : Nat} {ob : Option Blk} {b : Blk} (h : (s.sub k ob).blk j = some b) : j ≠ k ∧ ∃ b0, s.blk j = some b0 ∧ b = b0.sub k ob := by
  simp only [St.sub] at h
  cases hb : Nat.beq j k with
  | true => rw [hb] at h; simp at h
  | false =>
    rw [hb] at h
    simp only [cond_false] at h
    split at h
    · rename_i b0 h0
      simp only [Option.some.injEq] at h
      exact ⟨beq_ne hb, b0, h0, h.symm⟩
    · cases h
theorem sub_ln {s : St} {k j : Nat} {ob : Option Blk} (h : j ≠ k) : (s.sub k ob).ln j = s.ln j := by
  unfold St.ln St.sub
  cases hb : Nat.beq j k with
  | true => exact absurd (Nat.eq_of_beq_eq_true hb) h
  | false =>
    simp only [hb, cond_false]
    cases s.blk j with
    | none => rfl
    | some b => cases b <;> first | rfl | simp [Blk.sub, V.subL_eq]

theorem dfSub_sound {io io' : Keys} {F F' : Nat → Prop} {w : World} {k : Nat} {ob : Option Blk} (hi : ∀ j, j ≠ k → io'.io j = io.io j ∧ io.ln j ≤ io'.ln j) (hF : ∀ b, F b → F' b) (hk : SubOk F' w io k ob) : ∀ (l : List (FuncId × List V)) (ds : List Deferred), DfR io F w l ds → DfR io' F' w (dfSub k ob l) ds
  | [], _, h => h
  | (_, _) :: r, _, ⟨arr, rest, e, hl, h, h'⟩ => ⟨arr, rest, e, by rw [V.subL_eq]; simpa using hl, VRA.sub hi hF hk _ _ _ h, dfSub_sound hi hF hk r _ h'⟩

theorem BR.sub {A : Nat → Prop} {n0 : Nat} {io io' : Keys} {F F' : Nat → Prop} {w : World} {k : Nat} {ob : Option Blk} (hi : ∀ j, j ≠ k → io'.io j = io.io j ∧ io.ln j ≤ io'.ln j) (hF : ∀ b, F b → F' b) (hk : SubOk F' w io k ob) {j : Nat} (hj : j ≠ k) (hn : ∀ b, io.io j = some b → ¬ F b → ¬ F' b) : ∀ {b : Blk}, BR A n0 io F w j b → BR A n0 io' F' w j (b.sub k ob)
  | .data ty sz e z l, h => by
    simp only [BR, Blk.sub] at h ⊢
    rw [(hi j hj).1]
    rcases h with h | ⟨b, arr, h1, h2, h3, h4, h5⟩
    · exact .inl h
    · exact .inr ⟨b, arr, h1, hn b h1 h2, h3, h4, LRA.mono hF (fun _ _ => rfl) h5⟩
  | .box ty cells, h => by
    simp only [BR, Blk.sub] at h ⊢
    rw [(hi j hj).1]
    obtain ⟨b, arr, h1, h2, h3, h4, h5⟩ := h
    exact ⟨b, arr, h1, hn b h1 h2, h3, h4, VRA.sub hi hF hk _ _ _ h5⟩
  | .vec ty cells, h => by
    simp only [BR, Blk.sub] at h ⊢
    rw [(hi j hj).1]
    obtain ⟨b, arr, h1, h2, h3, h4, h5⟩ := h
    exact ⟨b, arr, h1, hn b h1 h2, h3, h4, VRA.sub hi hF hk _ _ _ h5⟩
  | .hole ty sz e z l i v, h => by
    simp only [BR, Blk.sub] at h ⊢
    rw [(hi j hj).1]
    obtain ⟨b, arr, h1, h2, h3, h4, h5⟩ := h
    obtain ⟨q0, q1, u, q2, q2', q3⟩ := h5
    exact ⟨b, arr, h1, hn b h1 h2, h3, h4, fun j a hj ha => ⟨(q0 j a hj ha).1, DRA.mono hF (fun _ _ => rfl) _ _ _ (q0 j a hj ha).2⟩, q1, u, q2, q2', VR.sub hi hF hk _ _ q3⟩

theorem SR.kill {X : Ctx} {io : Nat → Option Nat} {F : Nat → Prop} {s : St} {a : Act} {w : World} (hs : SR X io F s a w) (k : Nat) (b : Option Nat) (hK : k ∉ X.K) : SR X (updio io k b) F (s.sub k none) a w := by
  have hi : ∀ j, j ≠ k → ((s.sub k none).keys (updio io k b)).io j = (s.keys io).io j ∧ (s.keys io).ln j ≤ ((s.sub k none).keys (updio io k b)).ln j := fun j h => ⟨updio_ne io b h, by rw [show ((s.sub k none).keys (updio io k b)).ln j = (s.sub k none).ln j from rfl, sub_ln h]; exact Nat.le_refl _⟩
  refine ⟨hs.kept, fun t => VR.sub hi (fun _ h => h) subNone _ _ (hs.tm t), hs.nt, dfSub_sound hi (fun _ h => h) subNone _ _ hs.df, fun j b' hj => ?_, fun j j' c h1 h2 e1 e2 => ?_, hs.ff, hs.f0, fun j hj => (updio_ne io b (fun e => hK (by rw [← e]; exact hj))).trans (hs.st j hj)⟩
  · obtain ⟨hne, b0, h0, rfl⟩ := sub_blk hj
    exact BR.sub hi (fun _ h => h) subNone hne (fun _ _ h => h) (hs.bl j b0 h0)
  · obtain ⟨b1, hb1⟩ := Option.ne_none_iff_exists'.1 h1
    obtain ⟨b2, hb2⟩ := Option.ne_none_iff_exists'.1 h2
    obtain ⟨hn1, c1, g1, _⟩ := sub_blk hb1
    obtain ⟨hn2, c2, g2, _⟩ := sub_blk hb2
    rw [updio_ne io b hn1] at e1
    rw [updio_ne io b hn2] at e2
    exact hs.inj j j' c (by rw [g1]; simp) (by rw [g2]; simp) e1 e2

theorem SR.freeze {X : Ctx} {io : Nat → Option Nat} {F : Nat → Prop} {s : St} {a : Act} {w : World} (hs : SR X io F s a w) (k : Nat) {b : Blk} (hk : s.blk k = some b) : ∃ F', SR X io F' (s.sub k (some b)) a w ∧ (∀ c, F' c ↔ F c ∨ io k = some c) := by
  have hbr := hs.bl k b hk
  let F' : Nat → Prop := fun c => F c ∨ io k = some c
  have hF : ∀ c, F c → F' c := fun c h => .inl h
  have hi : ∀ j, j ≠ k → ((s.sub k (some b)).keys io).io j = (s.keys io).io j ∧ (s.keys io).ln j ≤ ((s.sub k (some b)).keys io).ln j := fun j h => ⟨rfl, by rw [show ((s.sub k (some b)).keys io).ln j = (s.sub k (some b)).ln j from rfl, sub_ln h]; exact Nat.le_refl _⟩
  have hln : (s.keys io).ln k = b.ln := ln_of hk
  have hok : SubOk F' w (s.keys io) k (some b) := by
    cases b with
    | data ty sz e z l =>
      simp only [SubOk]
      refine ⟨hln, ?_⟩
      simp only [BR] at hbr
      rcases hbr with h | ⟨c, arr, h1, h2, h3, h4, h5⟩
      · exact .inl h
      · exact .inr ⟨c, arr, ty, (0, 0), h1, .inr h1, h4, LRA.mono hF (fun _ _ => rfl) h5⟩
    | box ty cells =>
      simp only [SubOk]
      intro ds hds
      simp only [BR] at hbr
      obtain ⟨c, arr, h1, h2, h3, h4, h5⟩ := hbr
      exact ⟨c, arr, ty, (0, 0), h1, .inr h1, h4, DRA.mono hF (fun _ _ => rfl) _ _ _ (VRA.ofD hds h5)⟩
    | hole ty sz e z l i v => trivial
    | vec ty cells => trivial
  refine ⟨F', ⟨hs.kept, fun t => VR.sub hi hF hok _ _ (hs.tm t), hs.nt, dfSub_sound hi hF hok _ _ hs.df, fun j b' hj => ?_, fun j j' c h1 h2 e1 e2 => ?_, fun c h => ?_, fun c h => .inl (hs.f0 c h), hs.st⟩, fun c => Iff.rfl⟩
  · obtain ⟨hne, b0, h0, rfl⟩ := sub_blk hj
    refine BR.sub hi hF hok hne (fun c h1 h2 => ?_) (hs.bl j b0 h0)
    rintro (h3 | h3)
    · exact h2 h3
    · exact hne (hs.inj j k c (by rw [h0]; simp) (by rw [hk]; simp) h1 h3)
  · obtain ⟨b1, hb1⟩ := Option.ne_none_iff_exists'.1 h1
    obtain ⟨b2, hb2⟩ := Option.ne_none_iff_exists'.1 h2
    obtain ⟨_, c1, g1, _⟩ := sub_blk hb1
    obtain ⟨_, c2, g2, _⟩ := sub_blk hb2
    exact hs.inj j j' c (by rw [g1]; simp) (by rw [g2]; simp) e1 e2
  · rcases h with h | h
    · exact hs.ff c h
    · have : c < w.heap.size ∧ (X.A c ∨ X.w0.heap.size ≤ c) := by
        cases b with
        | data ty sz e z l =>
          simp only [BR] at hbr
          rcases hbr with ⟨h0, _⟩ | ⟨c', arr, h1, h2, h3, h4, _⟩
          · rw [show io k = none from h0] at h; cases h
          · rw [show io k = some c' from h1] at h; cases h
            exact ⟨lt_of_heap h4, h3⟩
        | box ty cells =>
          simp only [BR] at hbr
          obtain ⟨c', arr, h1, h2, h3, h4, _⟩ := hbr
          rw [show io k = some c' from h1] at h; cases h
          exact ⟨lt_of_heap h4, h3⟩
        | vec ty cells =>
          simp only [BR] at hbr
          obtain ⟨c', arr, h1, h2, h3, h4, _⟩ := hbr
          rw [show io k = some c' from h1] at h; cases h
          exact ⟨lt_of_heap h4, h3⟩
        | hole ty sz e z l i v =>
          simp only [BR] at hbr
          obtain ⟨c', arr, h1, h2, h3, h4, _⟩ := hbr
          rw [show io k = some c' from h1] at h; cases h
          exact ⟨lt_of_heap h4, h3⟩
      exact ⟨this.1, this.2.elim (fun h => .inr (.inr h)) (fun h => .inr (.inl h))⟩

def St.withBlk (s : St) (k : Nat) (b : Blk) : St := { s with blk := fun j => bif Nat.beq j k then some b else s.blk j }
def St.new (s : St) (k : Nat) (b : Blk) : St := (s.sub k none).withBlk k b

theorem withBlk_ne {s : St} {k j : Nat} {b : Blk} (h : j ≠ k) : (s.withBlk k b).blk j = s.blk j := by
  simp only [St.withBlk]
  cases hb : Nat.beq j k with
  | true => exact absurd (Nat.eq_of_beq_eq_true hb) h
  | false => rfl
theorem withBlk_same {s : St} {k : Nat} {b : Blk} : (s.withBlk k b).blk k = some b := by simp [St.withBlk]
theorem withBlk_ln {s : St} {k : Nat} {b : Blk} (h : s.ln k ≤ b.ln) (j : Nat) : s.ln j ≤ (s.withBlk k b).ln j := by
  unfold St.ln
  by_cases e : j = k
  · subst e
    rw [withBlk_same]
    unfold St.ln at h
    cases b <;> exact h
  · rw [withBlk_ne e]; exact Nat.le_refl _

theorem SR.setBlk {X : Ctx} {io : Nat → Option Nat} {F : Nat → Prop} {s : St} {a : Act} {w : World} (hs : SR X io F s a w) {k : Nat} {b : Blk} (hl : s.ln k ≤ b.ln) (hb : BR X.A X.w0.heap.size ((s.withBlk k b).keys io) F w k b) (hinj : ∀ j c, j ≠ k → s.blk j ≠ none → io j = some c → io k = some c → False) : SR X io F (s.withBlk k b) a w := by
  have hi : ∀ j, ((s.withBlk k b).keys io).io j = (s.keys io).io j ∧ (s.keys io).ln j ≤ ((s.withBlk k b).keys io).ln j := fun j => ⟨rfl, withBlk_ln hl j⟩
  refine ⟨hs.kept, fun t => VR.mono hi (fun _ h => h) (fun _ _ => rfl) (Shapes.refl w) _ _ (hs.tm t), hs.nt, DfR.mono hi (fun _ h => h) (fun _ _ => rfl) (Shapes.refl w) _ _ hs.df, fun j b' hj => ?_, fun j j' c h1 h2 e1 e2 => ?_, hs.ff, hs.f0, hs.st⟩
  · by_cases h : j = k
    · subst h; rw [withBlk_same] at hj; cases hj; exact hb
    · rw [withBlk_ne h] at hj
      exact BR.mono hi (fun _ h => h) (fun _ _ => rfl) (Shapes.refl w) (fun _ _ _ h1 h2 => ⟨h1, h2⟩) (hs.bl j b' hj)
  · by_cases h : j = k
    · by_cases h' : j' = k
      · rw [h, h']
      · rw [h] at e1; rw [withBlk_ne h'] at h2; exact (hinj j' c h' h2 e2 e1).elim
    · by_cases h' : j' = k
      · rw [h'] at e2; rw [withBlk_ne h] at h1; exact (hinj j c h h1 e1 e2).elim
      · rw [withBlk_ne h] at h1; rw [withBlk_ne h'] at h2; exact hs.inj j j' c h1 h2 e1 e2

theorem blk_lt {X : Ctx} {io : Nat → Option Nat} {F : Nat → Prop} {s : St} {a : Act} {w : World} (hs : SR X io F s a w) {j c : Nat} (h : s.blk j ≠ none) (e : io j = some c) : c < w.heap.size := by
  obtain ⟨b, hb⟩ := Option.ne_none_iff_exists'.1 h
  have := hs.bl j b hb
  cases b with
  | data ty sz e' z l =>
    simp only [BR] at this
    rcases this with ⟨h0, _⟩ | ⟨c', arr, h1, _, _, h4, _⟩
    · rw [show io j = none from h0] at e; cases e
    · rw [show io j = some c' from h1] at e; cases e; exact lt_of_heap h4
  | box ty cells =>
    simp only [BR] at this
    obtain ⟨c', arr, h1, _, _, h4, _⟩ := this
    rw [show io j = some c' from h1] at e; cases e; exact lt_of_heap h4
  | vec ty cells =>
    simp only [BR] at this
    obtain ⟨c', arr, h1, _, _, h4, _⟩ := this
    rw [show io j = some c' from h1] at e; cases e; exact lt_of_heap h4
  | hole ty sz e' z l i v =>
    simp only [BR] at this
    obtain ⟨c', arr, h1, _, _, h4, _⟩ := this
    rw [show io j = some c' from h1] at e; cases e; exact lt_of_heap h4

theorem sub_ln_same (s : St) (k : Nat) (ob : Option Blk) : (s.sub k ob).ln k = 0 := by simp [St.ln, St.sub]

theorem SR.newBlk {X : Ctx} {io : Nat → Option Nat} {F : Nat → Prop} {s : St} {a : Act} {w : World} (hs : SR X io F s a w) (k : Nat) (hK : k ∉ X.K) (ty : TypeId) (arr : Array Value) (b : Blk)
    (hb : (∃ (sz : Nat) (α : Type) (e : α → List D) (z : α) (l : List α), b = .data ty sz e z l ∧ LRA F w (fun j => arr[j]?) 0 sz e l) ∨ (∃ cs, b = .box ty cs ∧ VRA ((s.new k b).keys (updio io k (some w.heap.size))) F w (fun j => arr[j]?) 0 cs)) :
    SR X (updio io k (some w.heap.size)) F (s.new k b) a (w.alloc (.cells arr ty)) := by
  have h1 := (hs.kill k (some w.heap.size) hK).grow (below_alloc w (.cells arr ty)) (fun _ h => h) (fun _ h => .inl h)
  have hst : Stays F w (w.alloc (.cells arr ty)) := fun b h => (below_alloc w (.cells arr ty)).block b (hs.ff b h).1
  have hsh := shapes_of_below (below_alloc w (.cells arr ty))
  have hnF : ¬ F w.heap.size := fun h => by have := (hs.ff _ h).1; omega
  have hheap : (w.alloc (.cells arr ty)).heap[w.heap.size]? = some (.cells arr ty (0, 0)) := heap_alloc_new w _
  refine SR.setBlk h1 (by rw [sub_ln_same]; exact Nat.zero_le _) ?_ fun j c hne hj e1 e2 => ?_
  · rcases hb with ⟨sz, α, e, z, l, rfl, hd⟩ | ⟨cs, rfl, hd⟩
    · simp only [BR]
      exact .inr ⟨w.heap.size, arr, updio_same _ _ _, hnF, .inr hs.kept.size, hheap, LRA.mono (fun _ h => h) hst hd⟩
    · simp only [BR]
      exact ⟨w.heap.size, arr, updio_same _ _ _, hnF, .inr hs.kept.size, hheap, VRA.mono (fun _ => ⟨rfl, Nat.le_refl _⟩) (fun _ h => h) hst hsh _ _ _ hd⟩
  · rw [updio_same] at e2
    cases e2
    have := blk_lt (hs.kill k (some w.heap.size) hK) hj e1
    omega

theorem SR.write {X : Ctx} {io : Nat → Option Nat} {F : Nat → Prop} {s : St} {a : Act} {w : World} (hs : SR X io F s a w) {k b : Nat} (hk : s.blk k ≠ none) (hio : io k = some b) (hF : ¬ F b) (hA : X.A b ∨ X.w0.heap.size ≤ b) {arr arr' : Array Value} {ty : TypeId} (hh : w.heap[b]? = some (.cells arr ty (0, 0))) (hsz : arr'.size = arr.size) {nb : Blk} (hl : s.ln k ≤ nb.ln)
    (hb : (∃ (sz : Nat) (α : Type) (e : α → List D) (z : α) (l : List α), nb = .data ty sz e z l ∧ LRA F w (fun j => arr'[j]?) 0 sz e l) ∨ (∃ cs, nb = .box ty cs ∧ VRA (s.keys io) F w (fun j => arr'[j]?) 0 cs) ∨ (∃ (sz : Nat) (α : Type) (e : α → List D) (z : α) (l : List α) (i : Nat) (v : V), nb = .hole ty sz e z l i v ∧ HRA (s.keys io) F w (fun j => arr'[j]?) sz e i v l) ∨ (∃ cs, nb = .vec ty cs ∧ VRA (s.keys io) F w (fun j => arr'[j]?) 0 cs)) : SR X io F (s.withBlk k nb) a (w.setRow b arr') := by
  have hlt := lt_of_heap hh
  have hoth : ∀ c, c ≠ b → (w.setRow b arr').heap[c]? = w.heap[c]? := fun c h => setRow_other w b c arr' h
  have hst : Stays F w (w.setRow b arr') := fun c h => hoth c fun e => hF (e ▸ h)
  have hself : (w.setRow b arr').heap[b]? = some (.cells arr' ty (0, 0)) := setRow_heap w b arr arr' ty _ hh
  have hsh : Shapes w (w.setRow b arr') := fun c x ty' fz h => by
    by_cases e : c = b
    · subst e; rw [hh] at h; cases h; exact ⟨arr', hself, hsz⟩
    · exact ⟨x, (hoth c e).trans h, rfl⟩
  have hsize : (w.setRow b arr').heap.size = w.heap.size := by simp [World.setRow]
  have hi : ∀ j, ((s.withBlk k nb).keys io).io j = (s.keys io).io j ∧ (s.keys io).ln j ≤ ((s.withBlk k nb).keys io).ln j := fun j => ⟨rfl, withBlk_ln hl j⟩
  refine ⟨⟨hs.kept.os, hs.kept.tape, hs.kept.output, by rw [hsize]; exact hs.kept.size, fun c h1 h2 => ?_, hs.kept.shape.trans hsh⟩, fun t => VR.mono hi (fun _ h => h) hst hsh _ _ (hs.tm t), hs.nt, DfR.mono hi (fun _ h => h) hst hsh _ _ hs.df, fun j b' hj => ?_, fun j j' c h1 h2 e1 e2 => ?_, fun c h => by rw [hsize]; exact hs.ff c h, hs.f0, hs.st⟩
  · rw [hoth c fun e => by subst e; rcases hA with h | h; exact h2 h; omega]
    exact hs.kept.block c h1 h2
  · by_cases e : j = k
    · subst e
      rw [withBlk_same] at hj
      cases hj
      rcases hb with ⟨sz, α, e, z, l, rfl, hd⟩ | ⟨cs, rfl, hd⟩ | ⟨sz, α, e, z, l, i, v, rfl, hd⟩ | ⟨cs, rfl, hd⟩
      · simp only [BR]
        exact .inr ⟨b, arr', hio, hF, hA, hself, LRA.mono (fun _ h => h) hst hd⟩
      · simp only [BR]
        exact ⟨b, arr', hio, hF, hA, hself, VRA.mono hi (fun _ h => h) hst hsh _ _ _ hd⟩
      · simp only [BR]
        exact ⟨b, arr', hio, hF, hA, hself, HRA.mono hi (fun _ h => h) hst hsh hd⟩
      · simp only [BR]
        exact ⟨b, arr', hio, hF, hA, hself, VRA.mono hi (fun _ h => h) hst hsh _ _ _ hd⟩
    · rw [withBlk_ne e] at hj
      have hneb : ∀ c, io j = some c → c ≠ b := fun c hc e' => e (hs.inj j k b (by rw [hj]; simp) hk (e' ▸ hc) hio)
      exact BR.mono hi (fun _ h => h) hst hsh (fun c o h1 h2 h3 => ⟨(hoth c (hneb c h1)).trans h2, h3⟩) (hs.bl j b' hj)
  · have h1' : s.blk j ≠ none := by
      by_cases e : j = k
      · rw [e]; exact hk
      · rwa [withBlk_ne e] at h1
    have h2' : s.blk j' ≠ none := by
      by_cases e : j' = k
      · rw [e]; exact hk
      · rwa [withBlk_ne e] at h2
    exact hs.inj j j' c h1' h2' e1 e2
end Go.Vw

/-
  Data that stands for other data; lists in rows; one step of the machine; new variables and stores. Conditions: the table of types is the program's.
-/
set_option linter.unusedVariables false
namespace Go.Vw
open Go.RowKit

/-! ## Data in another form -/

def LeD (x y : D) : Prop := ∀ F w v, DR F w x v → DR F w y v
def LeL (xs ys : List D) : Prop := xs.length = ys.length ∧ ∀ F w g off, DRA F w g off xs → DRA F w g off ys
def LeT (xs ys : List D) : Prop := xs.length = ys.length ∧ ∀ F w g off, DRT F w g off xs → DRT F w g off ys
def LeR (sz : Nat) (rows : List (List D)) {α : Type} (e : α → List D) : List α → Prop
  | [] => rows = []
  | a :: l => ∃ r rest, rows = r :: rest ∧ r.length = sz ∧ LeL r (e a) ∧ LeR sz rest e l

theorem LeD.refl (x : D) : LeD x x := fun _ _ _ h => h
theorem LeD.trans {x y z : D} (h : LeD x y) (k : LeD y z) : LeD x z := fun F w v g => k F w v (h F w v g)
theorem LeL.refl (xs : List D) : LeL xs xs := ⟨rfl, fun _ _ _ _ h => h⟩
theorem LeL.nil : LeL [] [] := LeL.refl []
theorem LeL.cons {x y : D} {xs ys : List D} (h : LeD x y) (k : LeL xs ys) : LeL (x :: xs) (y :: ys) := ⟨by simp [k.1], fun F w g off e => by
  simp only [DRA] at e ⊢
  obtain ⟨⟨v, h1, h2, h3⟩, h4⟩ := e
  exact ⟨⟨v, h1, h2, h F w v h3⟩, k.2 F w g _ h4⟩⟩
theorem LeT.refl (xs : List D) : LeT xs xs := ⟨rfl, fun _ _ _ _ h => h⟩
theorem LeT.nil : LeT [] [] := LeT.refl []
theorem LeT.cons {x y : D} {xs ys : List D} (h : LeD x y) (k : LeT xs ys) : LeT (x :: xs) (y :: ys) := ⟨by simp [k.1], fun F w g off e => by
  simp only [DRT] at e ⊢
  obtain ⟨⟨v, h1, h3⟩, h4⟩ := e
  exact ⟨⟨v, h1, h F w v h3⟩, k.2 F w g _ h4⟩⟩
theorem LeD.nils {sz : Nat} {α : Type} {e : α → List D} {z : α} : LeD .nils (.sl sz e z []) := fun F w v h => by
  simp only [DR] at h ⊢; exact .inl ⟨⟨_, _, h⟩, trivial⟩
theorem LeD.agg {xs ys : List D} (h : LeL xs ys) : LeD (.agg xs) (.agg ys) := fun F w v k => by
  simp only [DR] at k ⊢
  obtain ⟨arr, e, hl, k⟩ := k
  exact ⟨arr, e, hl.trans h.1, h.2 F w _ _ k⟩
theorem LeD.tup {xs ys : List D} (h : LeT xs ys) : LeD (.tup xs) (.tup ys) := fun F w v k => by
  simp only [DR] at k ⊢
  obtain ⟨arr, e, hl, k⟩ := k
  exact ⟨arr, e, hl.trans h.1, h.2 F w _ _ k⟩
theorem LeD.ptr {xs ys : List D} (h : LeL xs ys) (o : Nat) : LeD (.ptr xs o) (.ptr ys o) := fun F w v k => by
  simp only [DR] at k ⊢
  obtain ⟨b, off, arr, ty, fz, e, hb, hh, k⟩ := k
  exact ⟨b, off, arr, ty, fz, e, hb, hh, h.2 F w _ _ k⟩
theorem LeD.fn {f : FuncId} {xs ys : List D} (h : LeL xs ys) : LeD (.fn f xs) (.fn f ys) := fun F w v k => by
  simp only [DR] at k ⊢
  obtain ⟨arr, e, hl, k⟩ := k
  exact ⟨arr, e, hl.trans h.1, h.2 F w _ _ k⟩
theorem LeD.sl {sz : Nat} {α β : Type} {e : α → List D} {z : α} {l : List α} {e' : β → List D} {z' : β} {l' : List β} (hl : l.length = l'.length) (h : ∀ (i : Nat) (a : α) (b : β), l[i]? = some a → l'[i]? = some b → (e' b).length = (e a).length ∧ LeL (e a) (e' b)) : LeD (.sl sz e z l) (.sl sz e' z' l') := fun F w v k => by
  simp only [DR] at k ⊢
  rcases k with ⟨h0, rfl⟩ | ⟨b, off, cap, arr, ty, fz, ev, hc, hb, hh, k⟩
  · exact .inl ⟨h0, by simpa using hl.symm⟩
  · refine .inr ⟨b, off, cap, arr, ty, fz, by rw [← hl]; exact ev, by omega, hb, hh, fun i c hi => ?_⟩
    have hlt : i < l.length := by have := (List.getElem?_eq_some_iff.1 hi).1; omega
    obtain ⟨g1, g2⟩ := k i _ (List.getElem?_eq_getElem hlt)
    obtain ⟨q1, q2⟩ := h i _ c (List.getElem?_eq_getElem hlt) hi
    exact ⟨q1.trans g1, q2.2 F w _ _ g2⟩

def nth {α : Type 1} (d : α) : List α → Nat → α
  | [], _ => d
  | r :: _, 0 => r
  | _ :: rs, i + 1 => nth d rs i
theorem nth_of {α : Type 1} {d : α} : ∀ {l : List α} {i : Nat} {a : α}, l[i]? = some a → nth d l i = a
  | [], i, a, h => by simp at h
  | r :: rs, 0, a, h => by simpa [nth] using h
  | r :: rs, i + 1, a, h => by simp at h; simp [nth, nth_of h]
def iota : Nat → Nat → List Nat
  | 0, _ => []
  | n + 1, i => i :: iota n (i + 1)
theorem iota_get : ∀ {n i j : Nat}, j < n → (iota n i)[j]? = some (i + j)
  | n + 1, i, 0, _ => by simp [iota]
  | n + 1, i, j + 1, h => by simp only [iota, List.getElem?_cons_succ]; rw [iota_get (by omega)]; congr 1; omega
theorem iota_len : ∀ (n i : Nat), (iota n i).length = n
  | 0, i => rfl
  | n + 1, i => by simp [iota, iota_len n]

theorem LeR.spec {sz : Nat} {α : Type} {e : α → List D} : ∀ {rows : List (List D)} {l : List α}, LeR sz rows e l → rows.length = l.length ∧ ∀ (i : Nat) (r : List D) (a : α), rows[i]? = some r → l[i]? = some a → r.length = sz ∧ LeL r (e a)
  | rows, [], h => by simp only [LeR] at h; subst h; simp
  | rows, a :: l, h => by
    simp only [LeR] at h
    obtain ⟨r, rest, rfl, h1, h2, h3⟩ := h
    obtain ⟨g1, g2⟩ := LeR.spec h3
    refine ⟨by simp [g1], fun i r' a' h4 h5 => ?_⟩
    cases i with
    | zero => simp at h4 h5; subst h4 h5; exact ⟨h1, h2⟩
    | succ i => simp at h4 h5; exact g2 i r' a' h4 h5
theorem LeR.nil {sz : Nat} {α : Type} {e : α → List D} : LeR sz [] e [] := rfl
theorem LeR.cons {sz : Nat} {α : Type} {e : α → List D} {r : List D} {rest : List (List D)} {a : α} {l : List α} (h1 : r.length = sz) (h2 : LeL r (e a)) (h3 : LeR sz rest e l) : LeR sz (r :: rest) e (a :: l) := ⟨r, rest, rfl, h1, h2, h3⟩
theorem LeD.lit {sz n : Nat} {α : Type} {e : α → List D} {z : α} {rows : List (List D)} {l : List α} (hn : rows.length = n) (h : LeR sz rows e l) : LeD (.sl sz (nth [] rows) 0 (iota n 0)) (.sl sz e z l) := by
  obtain ⟨h1, h2⟩ := h.spec
  refine LeD.sl (by rw [iota_len]; omega) fun i a b h3 h4 => ?_
  have hlt : i < n := by have := (List.getElem?_eq_some_iff.1 h3).1; rwa [iota_len] at this
  rw [iota_get hlt] at h3
  simp only [Option.some.injEq, Nat.zero_add] at h3
  subst h3
  have hr := List.getElem?_eq_getElem (show i < rows.length by omega)
  obtain ⟨q1, q2⟩ := h2 i _ b hr h4
  rw [nth_of hr]
  exact ⟨q2.1.symm, q2⟩

/-! ## One step -/

def gd (all : Array Oper) (s : St) (o : Oper) : Option Bool :=
  match o.guard with
  | none => some true
  | some (g, want) => match (all[g]?).bind (·.dst) with
    | some d => match s.tmps d with
      | .d (.bool b) => some (b == want)
      | .d (.tup _) => some false
      | _ => none
    | none => none

theorem gd_sound {io : Keys} {F : Nat → Prop} {s : St} {a : Act} {w : World} {all : Array Oper} {o : Oper} (ht : ∀ t ∈ o.looksAt all, VR io F w (s.tmps t) (a.tmps.getD t undef)) {r : Bool} (h : gd all s o = some r) : Region.wanted o (yielded all a.tmps) = r := by
  unfold gd at h
  unfold Region.wanted
  split at h
  · rename_i hg
    simp only [Option.some.injEq] at h
    rw [hg, ← h]
  · rename_i g want hg
    split at h
    · rename_i d hd
      have htd := ht d (by unfold Oper.looksAt; rw [List.mem_append]; right; simp [hg, hd])
      split at h
      · rename_i b hb
        simp only [Option.some.injEq] at h
        rw [hb] at htd
        simp only [VR, DR] at htd
        have hget : a.tmps[d]? = some (.bool b) := by
          rw [Array.getD_eq_getD_getElem?] at htd
          cases hq : a.tmps[d]? with
          | none => rw [hq] at htd; cases htd
          | some v => rw [hq] at htd; simp at htd; rw [htd]
        rw [hg]
        simp only [yielded, hd, Option.bind_some, hget]
        rw [← h]
        cases b <;> cases want <;> rfl
      · rename_i cs hb
        simp only [Option.some.injEq] at h
        rw [hb] at htd
        simp only [VR, DR] at htd
        obtain ⟨arr, htd, _⟩ := htd
        have hget : a.tmps[d]? = none ∨ a.tmps[d]? = some (.tuple arr) := by
          rw [Array.getD_eq_getD_getElem?] at htd
          cases hq : a.tmps[d]? with
          | none => exact .inl rfl
          | some v => rw [hq] at htd; simp at htd; rw [htd]; exact .inr rfl
        rw [hg, ← h]
        rcases hget with hget | hget <;> simp only [yielded, hd, Option.bind_some, hget] <;> rfl
      · cases h
    · cases h

def dstOk (N : Nat) : Option Tmp → Bool
  | some d => Nat.blt d N
  | none => true
theorem dstOk_sound {N : Nat} {dst : Option Tmp} (h : dstOk N dst = true) : ∀ d, dst = some d → d < N := fun d e => by
  subst e; simpa [dstOk, Nat.blt_eq] using h

def opWp (P : Program) (all : Array Oper) (o : Oper) (a : Act) (w : World) (K : Act → World → Prop) (Q : Exit → Act → World → Prop) : Prop :=
  if Region.wanted o (yielded all a.tmps) then o.wp P a w K Q ∨ (o.asks P a w ∧ LetsOut Q) else K (a.put o.dst Go.undef) w

theorem opWp_value {P : Program} {all : Array Oper} {o : Oper} {a : Act} {w w' : World} {K : Act → World → Prop} {Q : Exit → Act → World → Prop} {v : Value} (hw : Region.wanted o (yielded all a.tmps) = true) (h : (execOp a.eval o).run P w = .ok (.value v) w') (hK : K (a.put o.dst v) w') : opWp P all o a w K Q := by
  unfold opWp; rw [if_pos hw]; left
  unfold Oper.wp; rw [h]; exact hK

theorem opWp_skip {P : Program} {all : Array Oper} {o : Oper} {a : Act} {w w' : World} {K : Act → World → Prop} {Q : Exit → Act → World → Prop} (hw : Region.wanted o (yielded all a.tmps) = true) (h : (execOp a.eval o).run P w = .ok .skip w') (hK : K (a.put o.dst Go.undef) w') : opWp P all o a w K Q := by
  unfold opWp; rw [if_pos hw]; left
  unfold Oper.wp; rw [h]; exact hK

theorem VR.gone {io : Keys} {F : Nat → Prop} {w : World} : VR io F w (.d (.tup [])) Go.undef := by simp only [VR, DR, DRT]; exact ⟨#[], rfl, rfl, trivial⟩
theorem VR.undef {io : Keys} {F : Nat → Prop} {w : World} (v : Value) : VR io F w (.d .undef) v := by simp only [VR, DR]

def M1 (X : Ctx) (all : Array Oper) (s : St) (o : Oper) (x : V) : Prop :=
  ∀ io F a w, (∀ t ∈ o.looksAt all, VR (s.keys io) F w (s.tmps t) (a.tmps.getD t undef)) → (∀ k b, s.blk k = some b → BR X.A X.w0.heap.size (s.keys io) F w k b) → (∀ b, F b → b < w.heap.size) → ∀ (K : Act → World → Prop) (Q : Exit → Act → World → Prop),
    (∀ F' w' v, Below w.heap.size w w' → (∀ b, F b → F' b) → (∀ b, F' b → F b ∨ (w.heap.size ≤ b ∧ b < w'.heap.size)) → VR (s.keys io) F' w' x v → K (a.put o.dst v) w') → opWp X.P all o a w K Q

def E1 (X : Ctx) (all : Array Oper) (s : St) (o : Oper) (s' : St) : Prop :=
  ∀ io F a w, SR X io F s a w → ∀ (K : Act → World → Prop) (Q : Exit → Act → World → Prop), (∀ io' F' a' w', SR X io' F' s' a' w' → K a' w') → opWp X.P all o a w K Q

theorem M1.e1 {X : Ctx} {all : Array Oper} {s : St} {o : Oper} {x : V} (h : M1 X all s o x) (hd : dstOk X.N o.dst = true) : E1 X all s o (s.put o.dst x) := fun io F a w hs K Q hK =>
  h io F a w (fun t _ => hs.tm t) hs.bl (fun b hb => (hs.ff b hb).1) K Q fun F' w' v h1 h2 h3 h4 => hK io F' _ _ ((hs.grow h1 h2 h3).put (dstOk_sound hd) h4)

theorem M1.to {X : Ctx} {all : Array Oper} {s : St} {o : Oper} {x x' : V} (h : M1 X all s o x) (e : x = x') : M1 X all s o x' := e ▸ h

theorem operands_of {io : Keys} {F : Nat → Prop} {s : St} {a : Act} {w : World} {all : Array Oper} {o : Oper} (h : ∀ t ∈ o.looksAt all, VR io F w (s.tmps t) (a.tmps.getD t undef)) : ∀ y ∈ o.op.operands.toList, VR io F w (s.opd y) (a.eval y) := fun y hy => by
  cases y with
  | tmp t => exact h t (by unfold Oper.looksAt; rw [List.mem_append]; left; rw [List.mem_filterMap]; exact ⟨_, hy, rfl⟩)
  | const v => simp only [St.opd, Act.eval, constV_eq, VR]; exact DR.ofV F w v
  | global g => simp only [St.opd, Act.eval, VR, DR]
  | func f => simp only [St.opd, Act.eval, VR, DR]; exact ⟨#[], rfl, rfl, by simp [DRA]⟩

theorem m_off {X : Ctx} {all : Array Oper} {s : St} {o : Oper} (h : gd all s o = some false) : M1 X all s o (.d (.tup [])) := fun io F a w ht hb hF K Q hK => by
  unfold opWp
  rw [if_neg (by rw [gd_sound ht h]; simp)]
  exact hK F w _ (Below.refl _ _) (fun _ h => h) (fun _ h => .inl h) VR.gone

theorem m_quiet {X : Ctx} {T : TypeId → Option TyD} (hT : TabOk X.P T) {all : Array Oper} {s : St} {o : Oper} (m : Bool) {C : Prop} {x : V} (h : gd all s o = some true) (hq : evalQ T m s o.op = some (C, x)) (hC : C) : M1 X all s o x := fun io F a w ht hb hF K Q hK => by
  obtain ⟨v, hy, hv⟩ := evalQ_sound (P := X.P) hT o (operands_of ht) hb hq hC
  exact opWp_value (gd_sound ht h) hy (hK F w v (Below.refl _ _) (fun _ h => h) (fun _ h => .inl h) hv)

end Go.Vw

/-
  New variables, stores, new slices. Conditions: the table of types is the program's.
-/
namespace Go.Vw
open Go.RowKit

theorem DRA.one {F : Nat → Prop} {w : World} {g : Nat → Option Value} {off : Nat} {cs : List D} (h : DRA F w g off cs) (hg : ∀ i v, g (off + i) = some v → i < cs.length) : ∀ i v, g (off + i) = some v → v.oneCell' = true := fun i v hv => by
  have hi := hg i v hv
  obtain ⟨u, h1, h2, _⟩ := DRA_iff.1 h i _ (List.getElem?_eq_getElem hi)
  rw [hv] at h1; cases h1; exact h2

theorem run_storeRow {P : Program} {w : World} {t : TypeId} {dd : TyD} (ht : TyOk P t dd) {b o : Nat} {arr : Array Value} {ty : TypeId} (hh : w.heap[b]? = some (.cells arr ty (0, 0))) {v : Value} (hsz : v.cells.size = dd.size) (hl : o + dd.size ≤ arr.size) (h1 : ∀ u ∈ v.cells.toList, u.oneCell' = true) :
    (storeVar t ⟨b, o, none⟩ v).run P w = .ok () (w.setRow b (arr.toList.take o ++ (v.cells.toList ++ arr.toList.drop (o + v.cells.toList.length))).toArray) := by
  have := run_storeCells_at P b o ty v.cells.toList 0 arr w hh (by simp; omega) h1
  simp only [storeVar, Sem.run_bind, ht.runS, Result.andThen_ok]
  rw [if_neg (by simp [hsz])]
  rw [this]
  simp

def putRow (arr : Array Value) (o : Nat) (xs : List Value) : Array Value := (arr.toList.take o ++ (xs ++ arr.toList.drop (o + xs.length))).toArray
theorem putRow_size {arr : Array Value} {o : Nat} {xs : List Value} (h : o + xs.length ≤ arr.size) : (putRow arr o xs).size = arr.size := by simp [putRow]; omega
theorem putRow_get {arr : Array Value} {o : Nat} {xs : List Value} (h : o + xs.length ≤ arr.size) (j : Nat) : (putRow arr o xs)[j]? = if o ≤ j ∧ j < o + xs.length then xs[j - o]? else arr[j]? := by
  unfold putRow
  rw [List.getElem?_toArray]
  have hA : (arr.toList.take o).length = o := by simp; omega
  by_cases h1 : j < o
  · rw [List.getElem?_append_left (by omega), List.getElem?_take, if_pos h1, if_neg (by omega)]; simp
  · rw [List.getElem?_append_right (by omega), hA]
    by_cases h2 : j - o < xs.length
    · rw [List.getElem?_append_left h2, if_pos (by omega)]
    · rw [List.getElem?_append_right (by omega), List.getElem?_drop, if_neg (by omega)]
      rw [show o + xs.length + (j - o - xs.length) = j by omega]; simp

def putL {α : Type 1} : List α → Nat → List α → Option (List α)
  | cs, 0, [] => some cs
  | _ :: cs, 0, x :: xs => match putL cs 0 xs with | some r => some (x :: r) | none => none
  | c :: cs, o + 1, xs => match putL cs o xs with | some r => some (c :: r) | none => none
  | [], _, _ => none
theorem putL_spec {α : Type 1} : ∀ {cs : List α} {o : Nat} {xs r : List α}, putL cs o xs = some r → r.length = cs.length ∧ o + xs.length ≤ cs.length ∧ ∀ j, r[j]? = if o ≤ j ∧ j < o + xs.length then xs[j - o]? else cs[j]?
  | cs, 0, [], r, h => by simp [putL] at h; subst h; simp
  | c :: cs, 0, x :: xs, r, h => by
    simp only [putL] at h
    split at h
    · rename_i r' h'
      simp only [Option.some.injEq] at h; subst h
      obtain ⟨h1, h2, h3⟩ := putL_spec h'
      refine ⟨by simp [h1], by simp; omega, fun j => ?_⟩
      cases j with
      | zero => simp
      | succ j =>
        have := h3 j
        simp only [List.getElem?_cons_succ, List.length_cons, Nat.zero_le, true_and, Nat.sub_zero] at this ⊢
        rw [this]
        by_cases hj : j < 0 + xs.length
        · rw [if_pos hj, if_pos (by omega)]
        · rw [if_neg hj, if_neg (by omega)]
    · cases h
  | c :: cs, o + 1, xs, r, h => by
    have h : (match putL cs o xs with | some r => some (c :: r) | none => none) = some r := by cases xs <;> simpa only [putL] using h
    split at h
    · rename_i r' h'
      simp only [Option.some.injEq] at h; subst h
      obtain ⟨h1, h2, h3⟩ := putL_spec h'
      refine ⟨by simp [h1], by simp; omega, fun j => ?_⟩
      cases j with
      | zero => simp
      | succ j =>
        have := h3 j
        simp only [List.getElem?_cons_succ]
        rw [this]
        by_cases hj : o ≤ j ∧ j < o + xs.length
        · rw [if_pos hj, if_pos (by omega)]; congr 1; omega
        · rw [if_neg hj, if_neg (by omega)]
    · cases h
  | [], 0, x :: xs, r, h => by simp [putL] at h
  | [], o + 1, xs, r, h => by cases xs <;> simp [putL] at h

theorem VRA.put {io : Keys} {F : Nat → Prop} {w : World} {arr : Array Value} {cs ys r : List V} {o : Nat} {us : List Value} (h : VRA io F w (fun j => arr[j]?) 0 cs) (hl : us.length = ys.length) (k : VRA io F w (fun j => us[j]?) 0 ys) (e : putL cs o ys = some r) (hsz : o + us.length ≤ arr.size) : VRA io F w (fun j => (putRow arr o us)[j]?) 0 r := by
  obtain ⟨h1, h2, h3⟩ := putL_spec e
  rw [VRA_iff] at h k ⊢
  intro j c hj
  rw [h3 j] at hj
  simp only [Nat.zero_add] at h k ⊢
  rw [putRow_get hsz]
  split at hj
  · rename_i hc
    rw [if_pos (by omega)]
    exact k _ c hj
  · rename_i hc
    rw [if_neg (by omega)]
    exact h _ c hj

def evalE (T : TypeId → Option TyD) (s : St) (dst : Option Tmp) : Op → Option (Option V × St)
  | .alloc e => match dst, T e with
    | some d, some ed => match (V.d (D.ofV ed.zero)).storable with
      | true => some (some (.ptr d 0), s.new d (.box e (V.d (D.ofV ed.zero)).cells))
      | false => none
    | _, _ => none
  | .box e x => match dst with
    | some d => match (s.opd x).storable with
      | true => some (some (.ptr d 0), s.new d (.box e (V.subL d none (s.opd x).cells)))
      | false => none
    | none => none
  | .store t addr x => match T t, s.opd addr with
    | some td, .ptr k o => match s.blk k with
      | some (.box ty cs) => match (s.opd x).storable && Nat.beq (s.opd x).cells.length td.size with
        | true => match putL cs o (s.opd x).cells with
          | some cs' => some (none, s.withBlk k (.box ty cs'))
          | none => none
        | false => none
      | _ => none
    | _, _ => none
  | _ => none

theorem box_cells {io : Nat → Option Nat} {F : Nat → Prop} {w : World} {s : St} {d : Nat} {e : TypeId} {x : V} {v : Value} (cs : List V) (hx : VRA (s.keys io) F w (fun i => v.cells[i]?) 0 cs) : VRA ((s.new d (.box e (V.subL d none cs))).keys (updio io d (some w.heap.size))) F w (fun i => v.cells[i]?) 0 (V.subL d none cs) := by
  refine VRA.sub (k := d) (ob := none) (F := F) (fun j hj => ⟨updio_ne io _ hj, ?_⟩) (fun _ h => h) subNone _ _ _ hx
  show s.ln j ≤ (s.new d _).ln j
  unfold St.new
  rw [← sub_ln (s := s) (ob := none) hj]
  exact withBlk_ln (by rw [sub_ln_same]; exact Nat.zero_le _) j

theorem V.sub_d (k : Nat) (ob : Option Blk) (l : List D) : V.subL k ob (l.map V.d) = l.map V.d := by
  induction l with
  | nil => rfl
  | cons x l ih => simp [V.subL, V.sub, ih]

theorem e_eff {X : Ctx} {T : TypeId → Option TyD} (hT : TabOk X.P T) {all : Array Oper} {s s' : St} {o : Oper} {x : Option V} (hg : gd all s o = some true) (hd : dstOk X.N o.dst = true) (hK : ∀ d, o.dst = some d → X.K.contains d = false) (h : evalE T s o.dst o.op = some (x, s')) : E1 X all s o (match x with | some y => s'.put o.dst y | none => s'.put o.dst (.d .undef)) := by
  intro io F a w hs K Q hQ
  have hw := gd_sound (fun t _ => hs.tm t) hg
  obtain ⟨dst, op, ty, pos, after, guard⟩ := o
  cases op <;> simp only [evalE] at h <;> try (cases h; done)
  case alloc e =>
    cases dst with | none => cases h | some d => ?_
    split at h
    · rename_i d' ed hd' hed
      cases hd'
      split at h
      · rename_i hst
        simp only [Option.some.injEq, Prod.mk.injEq] at h; obtain ⟨rfl, rfl⟩ := h
        have hkk : d ∉ X.K := fun hm => by have := hK d rfl; simp [List.contains_eq_mem, hm] at this
        obtain ⟨hz1, hz2⟩ := VR.cells (io := s.keys io) (F := F) (w := w) hst (v := ed.zero) (by simp only [VR]; exact DR.ofV F w _)
        have hb := box_cells (d := d) (e := e) (x := V.d (D.ofV ed.zero)) _ hz2
        rw [V.cells_d, V.sub_d] at hb
        have hn := hs.newBlk d hkk e ed.zero.cells (.box e (V.d (D.ofV ed.zero)).cells) (.inr ⟨_, rfl, by rw [V.cells_d]; exact hb⟩)
        refine opWp_value hw (w' := w.alloc (.cells ed.zero.cells e)) (v := .pointer (some ⟨w.heap.size, 0, none⟩)) ?_ (hQ _ F _ _ (hn.put (dstOk_sound hd) ?_))
        · simp [execOp, Instr.alloc, (hT _ _ hed).runZ, newVar, newRow]
        · simp only [VR]; exact ⟨_, updio_same _ _ _, rfl⟩
      · cases h
    · cases h
  case box e y =>
    cases dst with | none => cases h | some d => ?_
    · split at h <;> rename_i d' hd' <;> cases hd'
      split at h
      · rename_i hst
        simp only [Option.some.injEq, Prod.mk.injEq] at h; obtain ⟨rfl, rfl⟩ := h
        have hkk : d ∉ X.K := fun hm => by have := hK d rfl; simp [List.contains_eq_mem, hm] at this
        obtain ⟨hz1, hz2⟩ := VR.cells hst (hs.opd y)
        have hb := box_cells (d := d) (e := e) (x := s.opd y) _ hz2
        have hn := hs.newBlk d hkk e (a.eval y).cells (.box e (V.subL d none (s.opd y).cells)) (.inr ⟨_, rfl, hb⟩)
        refine opWp_value hw (w' := w.alloc (.cells (a.eval y).cells e)) (v := .pointer (some ⟨w.heap.size, 0, none⟩)) ?_ (hQ _ F _ _ (hn.put (dstOk_sound hd) ?_))
        · simp [execOp, Instr.box, newVar, newRow]
        · simp only [VR]; exact ⟨_, updio_same _ _ _, rfl⟩
      · cases h
  case store t addr y =>
    split at h
    · rename_i td k o htd haddr
      have ha := hs.opd addr
      rw [haddr] at ha
      simp only [VR] at ha
      obtain ⟨b, hb, ea⟩ := ha
      split at h
      · rename_i ty' cs hk
        split at h
        · rename_i hst
          simp only [Bool.and_eq_true] at hst
          have hl := Nat.eq_of_beq_eq_true hst.2
          split at h
          · rename_i cs' hput
            simp only [Option.some.injEq, Prod.mk.injEq] at h; obtain ⟨rfl, rfl⟩ := h
            obtain ⟨hz1, hz2⟩ := VR.cells hst.1 (hs.opd y)
            have hbr := hs.bl k _ hk
            simp only [BR] at hbr
            obtain ⟨b', arr, hb', hF, hA, hh, hr⟩ := hbr
            rw [show (s.keys io).io k = io k from rfl] at hb hb'
            rw [hb'] at hb; cases hb
            obtain ⟨p1, p2, p3⟩ := putL_spec hput
            have hle : cs.length ≤ arr.size := by
              rcases Nat.lt_or_ge arr.size cs.length with h | h
              · obtain ⟨v, g1, _⟩ := VRA_iff.1 hr (cs.length - 1) _ (List.getElem?_eq_getElem (by omega))
                have := (Array.getElem?_eq_some_iff.1 g1).1
                omega
              · exact h
            have hus : VRA (s.keys io) F w (fun j => (a.eval y).cells.toList[j]?) 0 (s.opd y).cells := VRA.congr (fun i _ => by simp) hz2
            have hone : ∀ u ∈ (a.eval y).cells.toList, u.oneCell' = true := fun u hu => by
              obtain ⟨i, hi, e⟩ := List.mem_iff_getElem.1 hu
              have hi' : i < (s.opd y).cells.length := by simp at hi; omega
              obtain ⟨v, g1, g2, _⟩ := VRA_iff.1 hus i _ (List.getElem?_eq_getElem hi')
              simp only [Nat.zero_add] at g1
              rw [List.getElem?_eq_getElem hi] at g1
              cases g1; rw [← e]; exact g2
            have hrun := run_storeRow (P := X.P) (hT _ _ htd) (o := o) hh (v := a.eval y) (by omega) (by omega) hone
            have hsz' : o + (a.eval y).cells.toList.length ≤ arr.size := by simp; omega
            refine opWp_skip hw (w' := w.setRow b (putRow arr o (a.eval y).cells.toList)) ?_ (hQ _ F _ _ (SR.put (hs.write (by rw [hk]; simp) hb' hF hA hh (putRow_size hsz') (nb := .box ty' cs') (by rw [ln_of hk]; exact Nat.le_refl _) (.inr (.inl ⟨_, rfl, VRA.put hr (by simp; omega) hus hput hsz'⟩))) (dstOk_sound hd) (VR.undef _)))
            simp only [execOp, Instr.storeAt, ea, Instr.sureAddr, Sem.run_bind, Sem.run_pure, Result.andThen_ok, hrun]
            rfl
          · cases h
        · cases h
      · cases h
    · cases h

theorem e_store {X : Ctx} {T : TypeId → Option TyD} (hT : TabOk X.P T) {all : Array Oper} {s : St} {t ty ety : TypeId} {addr x : Operand} {pos : String} {after : Array Edge} {g : Option (Nat × Bool)} {td : TyD} {k sz i f : Nat} {α : Type} {e : α → List D} {z : α} {l : List α} {y : D} {cs : List D} {a' : α}
    (hg : gd all s ⟨none, .store t addr x, ty, pos, after, g⟩ = some true) (ht : T t = some td) (ha : s.opd addr = .eptr k sz i f) (hk : s.blk k = some (.data ety sz e z l)) (hx : s.opd x = .d y) (hst : ((V.d y).storable && Nat.beq y.cells.length td.size) = true) (hp : putL (e (l.getD i z)) f y.cells = some cs) (hle : LeL cs (e a')) (hi : i < l.length) :
    E1 X all s ⟨none, .store t addr x, ty, pos, after, g⟩ (s.withBlk k (.data ety sz e z (l.set i a'))) := by
  intro io F a w hs K Q hQ
  have hw := gd_sound (fun t _ => hs.tm t) hg
  simp only [Bool.and_eq_true] at hst
  have hl := Nat.eq_of_beq_eq_true hst.2
  have hv := hs.opd x
  rw [hx] at hv
  simp only [VR] at hv
  obtain ⟨hz1, hz2⟩ := DR.cells hst.1 hv
  have hb := hs.opd addr
  rw [ha] at hb
  simp only [VR] at hb
  obtain ⟨b, hb, ea⟩ := hb
  have hbr := hs.bl k _ hk
  simp only [BR] at hbr
  rcases hbr with ⟨_, rfl⟩ | ⟨b', arr, hb', hF, hA, hh, hr⟩
  · simp at hi
  rw [hb'] at hb; cases hb
  obtain ⟨q1, q2⟩ := hr i (l.getD i z) (by rw [List.getElem?_eq_getElem hi, List.getD_eq_getElem?_getD, List.getElem?_eq_getElem hi]; rfl)
  rw [Nat.zero_add] at q2
  obtain ⟨p1, p2, p3⟩ := putL_spec hp
  have hle0 : ∀ j, j < sz → i * sz + j < arr.size := fun j hj => by
    obtain ⟨v, g1, _⟩ := DRA_iff.1 q2 j _ (List.getElem?_eq_getElem (by omega))
    exact (Array.getElem?_eq_some_iff.1 g1).1
  have hfit : i * sz + f + (a.eval x).cells.toList.length ≤ arr.size := by
    by_cases hz : (a.eval x).cells.toList.length = 0
    · rw [hz]
      by_cases hf : f = 0
      · subst hf
        by_cases hsz : sz = 0
        · subst hsz; simp
        · have := hle0 0 (by omega); omega
      · have := hle0 (f - 1) (by omega); omega
    · have := hle0 (f + (a.eval x).cells.toList.length - 1) (by simp only [Array.length_toList] at hz ⊢; omega)
      omega
  have hone : ∀ u ∈ (a.eval x).cells.toList, u.oneCell' = true := fun u hu => by
    obtain ⟨j, hj, e'⟩ := List.mem_iff_getElem.1 hu
    have hj' : j < y.cells.length := by simp at hj; omega
    obtain ⟨v, g1, g2, _⟩ := DRA_iff.1 hz2 j _ (List.getElem?_eq_getElem hj')
    simp only [Nat.zero_add] at g1
    have : (a.eval x).cells[j]? = some u := by rw [← e']; simp at hj; simp [hj]
    rw [this] at g1; cases g1; exact g2
  have hrun := run_storeRow (P := X.P) (hT _ _ ht) (o := i * sz + f) hh (v := a.eval x) (by omega) (by simp at hfit; omega) hone
  refine opWp_skip hw (w' := w.setRow b (putRow arr (i * sz + f) (a.eval x).cells.toList)) ?_ (hQ _ F _ _ (SR.put (dst := none) (hs.write (by rw [hk]; simp) hb' hF hA hh (putRow_size hfit) (nb := .data ety sz e z (l.set i a')) (by rw [ln_of hk]; simp [Blk.ln]) (.inl ⟨sz, α, e, z, l.set i a', rfl, fun j c hj => ?_⟩)) (fun d hd => by cases hd) (VR.undef Go.undef)))
  · simp only [execOp, Instr.storeAt, ea, Instr.sureAddr, Sem.run_bind, Sem.run_pure, Result.andThen_ok, hrun]
    rfl
  · rw [Nat.zero_add]
    by_cases hji : i = j
    · subst hji
      rw [List.getElem?_set_self hi] at hj
      simp only [Option.some.injEq] at hj; subst hj
      refine ⟨hle.1.symm.trans (p1.trans q1), hle.2 F w _ _ ?_⟩
      rw [DRA_iff]
      intro m c hm
      rw [p3 m] at hm
      rw [putRow_get hfit]
      split at hm
      · rename_i hc
        rw [if_pos (by simp; omega)]
        obtain ⟨v, g1, g2⟩ := DRA_iff.1 hz2 _ c hm
        refine ⟨v, ?_, g2⟩
        rw [show i * sz + m - (i * sz + f) = m - f by omega]
        simpa using g1
      · rename_i hc
        rw [if_neg (by simp; omega)]
        exact DRA_iff.1 q2 m c hm
    · rw [List.getElem?_set_ne hji] at hj
      obtain ⟨g1, g2⟩ := hr j c hj
      refine ⟨g1, DRA.congr (fun m hm => ?_) g2⟩
      rw [Nat.zero_add, putRow_get hfit, if_neg]
      have hxl : f + (a.eval x).cells.toList.length ≤ sz := by simp; omega
      intro hc
      have hm' : m < sz := by omega
      rcases Nat.lt_or_gt_of_ne hji with h | h
      · have : (i + 1) * sz ≤ j * sz := Nat.mul_le_mul_right _ h
        rw [Nat.add_mul] at this; omega
      · have : (j + 1) * sz ≤ i * sz := Nat.mul_le_mul_right _ h
        rw [Nat.add_mul] at this; omega

theorem SR.fill {X : Ctx} {io : Nat → Option Nat} {F : Nat → Prop} {s : St} {a : Act} {w : World} (hs : SR X io F s a w) {k : Nat} {ty : TypeId} {sz : Nat} {α : Type} {e : α → List D} {z : α} {l : List α} {i : Nat} {y : D} {a' : α} (hk : s.blk k = some (.hole ty sz e z l i (.d y))) (hle : LeL [y] (e a')) (hi : i < l.length) :
    SR X io F (s.withBlk k (.data ty sz e z (l.set i a'))) a w := by
  have hbr := hs.bl k _ hk
  simp only [BR] at hbr
  obtain ⟨b, arr, h1, h2, h3, h4, h0, rfl, u, q1, q2, q3⟩ := hbr
  refine hs.setBlk (by rw [ln_of hk]; simp [Blk.ln]) ?_ fun j c hj hb e1 e2 => hj (hs.inj j k c hb (by rw [hk]; simp) e1 e2)
  simp only [BR]
  refine .inr ⟨b, arr, h1, h2, h3, h4, fun j c hc => ?_⟩
  by_cases hji : i = j
  · subst hji
    rw [List.getElem?_set_self hi] at hc
    simp only [Option.some.injEq] at hc; subst hc
    refine ⟨hle.1.symm, hle.2 F w _ _ ?_⟩
    simp only [VR] at q3
    rw [Nat.zero_add, Nat.mul_one]
    simp only [DRA, and_true]
    exact ⟨u, q1, q2, q3⟩
  · rw [List.getElem?_set_ne hji] at hc
    have := h0 j c (fun h => hji h.symm) hc
    rw [Nat.zero_add]; exact this
end Go.Vw

/-
  New slices, append, literals, bytes and strings. Conditions: the table of types is the program's.
-/
namespace Go.Vw
open Go.RowKit

theorem flat_get (z : List Value) : ∀ (n j : Nat), j < n * z.length → (List.replicate n z).flatten[j]? = z[j % z.length]?
  | 0, j, h => by simp at h
  | n + 1, j, h => by
    simp only [List.replicate_succ, List.flatten_cons]
    by_cases h' : j < z.length
    · rw [List.getElem?_append_left h', Nat.mod_eq_of_lt h']
    · rw [List.getElem?_append_right (by omega), flat_get z n (j - z.length) (by rw [Nat.succ_mul] at h; omega), ← Nat.mod_eq_sub_mod (by omega)]

theorem range_zero (z : Array Value) (hp : 0 < z.size) (n : Nat) : ((Array.range (n * z.size)).map fun j => z[j % z.size]!) = (List.replicate n z.toList).flatten.toArray := by
  apply Array.ext'
  simp only [Array.toList_map, Array.toList_range]
  apply List.ext_getElem?
  intro j
  by_cases hj : j < n * z.size
  · have hm : j % z.size < z.size := Nat.mod_lt _ hp
    rw [List.getElem?_map, List.getElem?_range hj, flat_get z.toList n j (by simpa using hj)]
    simp [hm, getElem!_pos]
  · rw [List.getElem?_eq_none (by simp; omega), List.getElem?_eq_none (by simp; omega)]

theorem lra_replicate {F : Nat → Prop} {w : World} {z : Array Value} {zc : List D} {α : Type} {en : α → List D} {z0 : α} {sz : Nat} (hs : z.size = sz) (hl : zc.length = sz) (hp : 0 < sz) (hz : DRA F w (fun i => z[i]?) 0 zc) (le : LeL zc (en z0)) (n m : Nat) (hnm : n ≤ m) : LRA F w (fun j => (List.replicate m z.toList).flatten.toArray[j]?) 0 sz en (List.replicate n z0) := fun i a hi => by
  have hlt : i < n := by have := (List.getElem?_eq_some_iff.1 hi).1; simpa using this
  have ha : a = z0 := by rw [List.getElem?_replicate, if_pos hlt] at hi; cases hi; rfl
  subst ha
  refine ⟨le.1.symm.trans hl, DRA.congr (fun j hj => ?_) (le.2 F w _ _ hz)⟩
  have hj' : j < sz := by have := le.1; omega
  rw [Nat.zero_add, Nat.zero_add, List.getElem?_toArray, flat_get z.toList m (i * sz + j) (by
    simp only [Array.length_toList, hs]
    have : (i + 1) * sz ≤ m * sz := Nat.mul_le_mul_right _ (by omega)
    rw [Nat.add_mul] at this; omega)]
  simp only [Array.length_toList, hs]
  rw [Nat.add_comm, Nat.add_mul_mod_self_right, Nat.mod_eq_of_lt hj']
  simp

def zeroOk (ed : TyD) : Bool := (V.d (D.ofV ed.zero)).storable && Nat.beq (D.ofV ed.zero).cells.length ed.size && Nat.blt 0 ed.size
theorem zeroOk_sound {ed : TyD} (h : zeroOk ed = true) {F : Nat → Prop} {w : World} : ed.zero.cells.size = ed.size ∧ (D.ofV ed.zero).cells.length = ed.size ∧ 0 < ed.size ∧ DRA F w (fun i => ed.zero.cells[i]?) 0 (D.ofV ed.zero).cells := by
  simp only [zeroOk, Bool.and_eq_true] at h
  obtain ⟨⟨h1, h2⟩, h3⟩ := h
  have h2 := Nat.eq_of_beq_eq_true h2
  have h3 : 0 < ed.size := by simpa [Nat.blt_eq] using h3
  obtain ⟨g1, g2⟩ := DR.cells (F := F) (w := w) h1 (DR.ofV F w ed.zero)
  exact ⟨g1.trans h2, h2, h3, g2⟩

theorem notMem {K : List Nat} {d : Nat} (h : K.contains d = false) : d ∉ K := fun hm => by simp [List.contains_eq_mem, hm] at h

theorem e_make {X : Ctx} {T : TypeId → Option TyD} (hT : TabOk X.P T) {all : Array Oper} {s : St} {t e ty : TypeId} {lo co : Operand} {pos : String} {after : Array Edge} {g : Option (Nat × Bool)} {d : Tmp} {td ed : TyD} {n m : Int} {mm : Bool} {C : Prop} {j : Nat} {α : Type} {en : α → List D} {z : α}
    (hg : gd all s ⟨some d, .makeSlice t lo co, ty, pos, after, g⟩ = some true) (hd : dstOk X.N (some d) = true) (hK : X.K.contains d = false) (ht : T t = some td) (hds : td.desc = .slice e) (he : T e = some ed) (hl : intOfV (s.opd lo) = some n) (hc : intOfV (s.opd co) = some m) (hn : natOf mm n = some (C, ⟨j⟩)) (hz : zeroOk ed = true) (le : LeL (D.ofV ed.zero).cells (en z)) (hC : C) (hb : n ≤ m ∧ m * ed.bytes ≤ 140737488355328 ∧ m ≤ 9223372036854775807) :
    E1 X all s ⟨some d, .makeSlice t lo co, ty, pos, after, g⟩ ((s.new d (.data e ed.size en z (List.replicate j z))).put (some d) (.own d 0 j e ed.size)) := by
  intro io F a w hs K Q hQ
  have hw := gd_sound (fun t _ => hs.tm t) hg
  obtain ⟨g0, g1⟩ := natOf_spec hn hC
  simp only at g1
  obtain ⟨z1, z2, z3, z4⟩ := zeroOk_sound (F := F) (w := w) hz
  obtain ⟨b1, b2, b3⟩ := hb
  obtain ⟨k1, e1⟩ := intOfV_sound hl (hs.opd lo)
  obtain ⟨k2, e2⟩ := intOfV_sound hc (hs.opd co)
  have hu := (hT _ _ ht).runU w
  rw [hds] at hu
  have wl : IntKind.i64.wrap n = n := IntWalk.i64_in n (by omega)
  have wc : IntKind.i64.wrap m = m := IntWalk.i64_in m (by omega)
  obtain ⟨i, hi, his, hib, hiz⟩ := (hT _ _ he).inf
  have hrow : ((Array.range (m.toNat * ed.size)).map fun j => ed.zero.cells[j % ed.zero.cells.size]!) = (List.replicate m.toNat ed.zero.cells.toList).flatten.toArray := by
    rw [← z1]; exact range_zero _ (by omega) _
  have hrun : (Instr.makeSlice t (a.eval lo) (a.eval co)).run X.P w = .ok (.slice (some ⟨w.heap.size, 0, none⟩) n.toNat m.toNat) (w.alloc (.cells (List.replicate m.toNat ed.zero.cells.toList).flatten.toArray e)) := by
    have hnb : ¬ ((ed.bytes : Int) * m > 2 ^ 48) := by
      have : (ed.bytes : Int) * m = m * ed.bytes := Int.mul_comm _ _
      omega
    simp only [Instr.makeSlice, Sem.run_bind, hu, Result.andThen_ok, e1, e2, asInt, asIntOf, Sem.run_pure, typeInfo, run_program, hi, hib, wl, wc]
    have hif : ¬ (((decide (m < 0) || decide ((ed.bytes : Int) * m > 2 ^ 48)) || decide (n < 0) || decide (n > m)) = true) := by
      simp; omega
    rw [if_neg hif]
    simp only [Sem.run_bind, run_askRoom, Result.andThen_ok, (hT _ _ he).runS]
    by_cases hz : m.toNat * ed.size = 0
    · simp only [hz, if_true, Sem.run_pure, Result.andThen_ok]
      have : m.toNat = 0 := by
        rcases Nat.mul_eq_zero.1 hz with h | h
        · exact h
        · omega
      simp [this, newRow]
      congr 2
      apply Array.ext'
      simp
    · simp only [hz, if_false, Sem.run_bind, (hT _ _ he).runZ, Result.andThen_ok, Sem.run_pure, hrow]
      simp [newRow]
  have hlen : (List.replicate m.toNat ed.zero.cells.toList).flatten.length = m.toNat * ed.size := by simp [z1]
  have hnb := hs.newBlk d (notMem hK) e (List.replicate m.toNat ed.zero.cells.toList).flatten.toArray (.data e ed.size en z (List.replicate j z)) (.inl ⟨_, _, _, _, _, rfl, lra_replicate z1 z2 z3 z4 le j m.toNat (by omega)⟩)
  refine opWp_value hw (w' := w.alloc (.cells (List.replicate m.toNat ed.zero.cells.toList).flatten.toArray e)) (v := .slice (some ⟨w.heap.size, 0, none⟩) n.toNat m.toNat) (by simp only [execOp, Sem.run_bind, hrun, Result.andThen_ok]; rfl) (hQ _ F _ _ (hnb.put (dstOk_sound hd) ?_))
  simp only [VR]
  refine .inr ⟨w.heap.size, m.toNat, _, updio_same _ _ _, by rw [g1, Nat.zero_mul], by omega, by unfold maxLen; omega, heap_alloc_new w _, by simp [z1], ?_⟩
  show 0 + j ≤ (s.new d _).ln d
  rw [show (s.new d (.data e ed.size en z (List.replicate j z))).ln d = _ from ln_of withBlk_same]
  simp [Blk.ln]

/-! ## What is appended -/

def SrcT (F : Nat → Prop) (w : World) (u : Value) (sz : Nat) {α : Type} (e : α → List D) (l : List α) : Prop :=
  ((∃ p c, u = .slice p 0 c) ∧ l = []) ∨ ∃ b off c arr ty fz, u = .slice (some ⟨b, off, none⟩) l.length c ∧ w.heap[b]? = some (.cells arr ty fz) ∧ LRA F w (fun j => arr[j]?) off sz e l

theorem src_of_data {F : Nat → Prop} {w : World} {u : Value} {sz : Nat} {α : Type} {e : α → List D} {z : α} {l : List α} (h : DR F w (.sl sz e z l) u) : SrcT F w u sz e l := by
  simp only [DR] at h
  rcases h with h | ⟨b, off, cap, arr, ty, fz, h1, h2, h3, h4, h5⟩
  · exact .inl h
  · exact .inr ⟨b, off, cap, arr, ty, fz, h1, h4, h5⟩

theorem lra_vals {F : Nat → Prop} {w : World} {g : Nat → Option Value} {sz : Nat} {α : Type} {e : α → List D} : ∀ (l : List α) (off : Nat), LRA F w g off sz e l → ∃ news : List Value, news.length = l.length * sz ∧ (∀ j, j < news.length → g (off + j) = news[j]?) ∧ LRA F w (fun j => news[j]?) 0 sz e l ∧ ∀ u ∈ news, u.oneCell' = true
  | [], off, h => ⟨[], by simp, by simp, fun i a hi => by simp at hi, by simp⟩
  | a :: l, off, h => by
    obtain ⟨h1, h2⟩ := h 0 a (by simp)
    rw [Nat.zero_mul, Nat.add_zero] at h2
    obtain ⟨us, g1, g2, g3⟩ := row_vals (io := ⟨fun _ => none, fun _ => 0⟩) (DRA.toV h2)
    have hul : us.length = sz := by simpa [h1] using g1
    obtain ⟨news, n1, n2, n3, n4⟩ := lra_vals l (off + sz) (fun i b hi => by
      have := h (i + 1) b (by simpa using hi)
      refine ⟨this.1, ?_⟩
      rw [show off + sz + i * sz = off + (i + 1) * sz by rw [Nat.add_mul]; omega]; exact this.2)
    have g3' : DRA F w (fun i => us[i]?) 0 (e a) := VRA.ofD (allD_of _) g3
    refine ⟨us ++ news, by simp [hul, n1, Nat.add_mul]; omega, fun j hj => ?_, fun i b hi => ?_, fun u hu => ?_⟩
    · by_cases hj' : j < us.length
      · rw [List.getElem?_append_left hj']; exact g2 j (by simpa [g1] using (by omega : j < us.length))
      · rw [List.getElem?_append_right (by omega)]
        have := n2 (j - us.length) (by simp at hj; omega)
        rw [← this]; congr 1; omega
    · cases i with
      | zero =>
        simp at hi; subst hi
        refine ⟨h1, DRA.congr (fun m hm => ?_) g3'⟩
        simp only [Nat.zero_add, Nat.zero_mul]
        rw [List.getElem?_append_left (by omega)]
      | succ i =>
        simp at hi
        obtain ⟨q1, q2⟩ := n3 i b hi
        refine ⟨q1, DRA.congr (fun m hm => ?_) q2⟩
        simp only [Nat.zero_add, Nat.add_mul]
        rw [List.getElem?_append_right (by omega)]
        congr 1; omega
    · rw [List.mem_append] at hu
      rcases hu with hu | hu
      · obtain ⟨i, hi, rfl⟩ := List.mem_iff_getElem.1 hu
        obtain ⟨v, q1, q2, _⟩ := VRA_iff.1 g3 i _ (List.getElem?_eq_getElem (by rw [← g1]; exact hi))
        simp only [Nat.zero_add] at q1
        rw [List.getElem?_eq_getElem hi] at q1; cases q1; exact q2
      · exact n4 u hu

theorem LRA.append {F : Nat → Prop} {w : World} {sz : Nat} {α : Type} {e : α → List D} {l l2 : List α} {us vs : List Value} (hu : us.length = l.length * sz) (h : LRA F w (fun j => us[j]?) 0 sz e l) (k : LRA F w (fun j => vs[j]?) 0 sz e l2) : LRA F w (fun j => (us ++ vs)[j]?) 0 sz e (l ++ l2) := fun i a hi => by
  by_cases h' : i < l.length
  · rw [List.getElem?_append_left h'] at hi
    obtain ⟨q1, q2⟩ := h i a hi
    refine ⟨q1, DRA.congr (fun m hm => ?_) q2⟩
    have : (i + 1) * sz ≤ l.length * sz := Nat.mul_le_mul_right _ h'
    rw [Nat.add_mul] at this
    rw [List.getElem?_append_left (by omega)]
  · rw [List.getElem?_append_right (by omega)] at hi
    obtain ⟨q1, q2⟩ := k _ a hi
    refine ⟨q1, DRA.congr (fun m hm => ?_) q2⟩
    have : l.length * sz ≤ i * sz := Nat.mul_le_mul_right _ (by omega)
    rw [List.getElem?_append_right (by omega)]
    congr 1
    rw [Nat.sub_mul]; omega

theorem LRA.of_prefix {F : Nat → Prop} {w : World} {sz : Nat} {α : Type} {e : α → List D} {l : List α} {us : List Value} {g : Nat → Option Value} (hu : us.length = l.length * sz) (h : LRA F w (fun j => us[j]?) 0 sz e l) (hg : ∀ j, j < us.length → g j = us[j]?) : LRA F w g 0 sz e l := fun i a hi => by
  obtain ⟨q1, q2⟩ := h i a hi
  refine ⟨q1, DRA.congr (fun m hm => ?_) q2⟩
  have : (i + 1) * sz ≤ l.length * sz := Nat.mul_le_mul_right _ (List.getElem?_eq_some_iff.1 hi).1
  rw [Nat.add_mul] at this
  exact hg _ (by omega)

section
variable {P : Program} {w : World} {t ty e : TypeId} {td ed : TyD} (ht : TyOk P t td) (hd : td.desc = .slice e) (he : TyOk P e ed)
include ht hd he
theorem run_append_empty (v : Value) (n cap : Nat) (base : Option Addr) (hs : ∃ p c, v = .slice p 0 c) (hn : n ≤ cap) :
    (Builtin.append_ #[t, t] ty #[.slice base n cap, v]).run P w = .ok (.slice base n cap) w := by
  obtain ⟨i, hi, his, hib, hiz⟩ := he.inf
  have hu := ht.und
  rw [hd] at hu
  obtain ⟨p, c, rfl⟩ := hs
  have hlen : (Builtin.lenOf (.slice p 0 c)).run P w = .ok 0 w := rfl
  have hfc : (Builtin.firstCells i.size 0 (.slice p 0 c)).run P w = .ok #[] w := by
    cases p with
    | none => rfl
    | some a => simp [Builtin.firstCells, loadCells, loadCellsFrom]
  cases base <;> simp [Builtin.append_, run_underlying hu, sizeOf, typeInfo, hi, hlen, hn, hfc, storeCells]
end

theorem append_own {X : Ctx} {T : TypeId → Option TyD} (hT : TabOk X.P T) {io : Nat → Option Nat} {F : Nat → Prop} {s : St} {a : Act} {w : World} (hs : SR X io F s a w) {t ty e : TypeId} {td ed : TyD} (ht : T t = some td) (hd : td.desc = .slice e) (he : T e = some ed) {k n : Nat} (hK : k ∉ X.K) {α : Type} {en : α → List D} {z : α} {l l2 : List α} (hk : s.blk k = some (.data e ed.size en z l)) {v : Value} (hv : VR (s.keys io) F w (.own k 0 n e ed.size) v) (hn : n = l.length)
    {u : Value} (hu : SrcT F w u ed.size en l2) (hz : zeroOk ed = true) (hlen : l.length + l2.length ≤ maxLen) (hby : (l.length + l2.length) * ed.bytes ≤ 140737488355328) :
    ∃ v' w' io', (Builtin.append_ #[t, t] ty #[v, u]).run X.P w = .ok v' w' ∧ SR X io' F (s.new k (.data e ed.size en z (l ++ l2))) a w' ∧ VR ((s.new k (.data e ed.size en z (l ++ l2))).keys io') F w' (.own k 0 (l ++ l2).length e ed.size) v' := by
  obtain ⟨i, hi, his, hib, hiz⟩ := (hT _ _ he).inf
  obtain ⟨z1, z2, z3, z4⟩ := zeroOk_sound (F := F) (w := w) hz
  have hund := (hT _ _ ht).und
  rw [hd] at hund
  have hmx : maxLen = 9223372036854775807 := rfl
  have hlnn : (s.new k (.data e ed.size en z (l ++ l2))).ln k = (l ++ l2).length := ln_of withBlk_same
  have hlk : s.ln k = l.length := ln_of hk
  subst hn
  have hv0 := hv
  simp only [VR] at hv
  have stay : ∀ b, l2 = [] → io k = b → SR X (updio io k b) F (s.new k (.data e ed.size en z (l ++ l2))) a w := fun b h0 hb => by
    subst h0 hb
    have hkill := hs.kill k (io k) hK
    refine SR.setBlk hkill (by rw [sub_ln_same]; exact Nat.zero_le _) ?_ fun j c hne hj e1 e2 => ?_
    · have := hs.bl k _ hk
      simp only [BR, List.append_nil] at this ⊢
      rw [show ((s.sub k none).withBlk k (.data e ed.size en z l)).keys (updio io k (io k)) = ⟨updio io k (io k), _⟩ from rfl]
      simp only [updio_same]
      exact this
    · obtain ⟨b0, hb0⟩ := Option.ne_none_iff_exists'.1 hj
      obtain ⟨_, c1, g1, _⟩ := sub_blk hb0
      rw [updio_ne _ _ hne] at e1
      rw [updio_same] at e2
      exact hne (hs.inj j k _ (by rw [g1]; simp) (by rw [hk]; simp) e1 e2)
  have stayV : ∀ b (v : Value), l2 = [] → io k = b → VR (s.keys io) F w (.own k 0 l.length e ed.size) v → VR ((s.new k (.data e ed.size en z (l ++ l2))).keys (updio io k b)) F w (.own k 0 (l ++ l2).length e ed.size) v := fun b v h0 hb h => by
    subst h0 hb
    simp only [VR] at h ⊢
    rw [show ((s.new k (.data e ed.size en z (l ++ []))).keys (updio io k (io k))).io k = io k from updio_same _ _ _]
    simp only [List.append_nil]
    rcases h with h | ⟨b, cap, arr, h1, h2, h3, h4, h5, h6, h7⟩
    · exact .inl h
    · refine .inr ⟨b, cap, arr, h1, h2, h3, h4, h5, h6, ?_⟩
      have := hlnn
      simp only [List.append_nil] at this
      show _ ≤ (s.new k _).ln k
      rw [this]; omega
  have fresh : ∀ (vals news : List Value) (cap : Nat), vals.length = l.length * ed.size → LRA F w (fun j => vals[j]?) 0 ed.size en l → news.length = l2.length * ed.size → LRA F w (fun j => news[j]?) 0 ed.size en l2 → (l ++ l2).length ≤ cap → cap ≤ maxLen →
      SR X (updio io k (some w.heap.size)) F (s.new k (.data e ed.size en z (l ++ l2))) a (w.drew.alloc (.cells (vals.toArray ++ news.toArray ++ Builtin.zeroCells ed.zero.cells (cap - (l ++ l2).length)) e)) ∧ VR ((s.new k (.data e ed.size en z (l ++ l2))).keys (updio io k (some w.heap.size))) F (w.drew.alloc (.cells (vals.toArray ++ news.toArray ++ Builtin.zeroCells ed.zero.cells (cap - (l ++ l2).length)) e)) (.own k 0 (l ++ l2).length e ed.size) (.slice (some ⟨w.heap.size, 0, none⟩) (l ++ l2).length cap) := fun vals news cap h1 h2 h3 h4 h5 h6 => by
    have hap := LRA.append h1 h2 h4
    have hap2 : LRA F w (fun j => (vals.toArray ++ news.toArray ++ Builtin.zeroCells ed.zero.cells (cap - (l ++ l2).length))[j]?) 0 ed.size en (l ++ l2) := LRA.of_prefix (us := vals ++ news) (by simp [h1, h3, Nat.add_mul]) hap fun j hj => by
      rw [Array.getElem?_append_left (by simpa using hj)]
      simp
    refine ⟨(hs.drew).newBlk k hK e _ (.data e ed.size en z (l ++ l2)) (.inl ⟨_, _, _, _, _, rfl, LRA.mono (w := w) (w' := w.drew) (fun _ h => h) (fun _ _ => rfl) hap2⟩), ?_⟩
    simp only [VR]
    refine .inr ⟨w.heap.size, cap, _, updio_same _ _ _, by simp, h5, by omega, heap_alloc_new w.drew _, ?_, ?_⟩
    · simp [size_zeroCells, h1, h3, z1]
      rw [← Nat.add_mul, ← Nat.add_mul]; congr 1; simp at h5; omega
    · show _ ≤ (s.new k _).ln k
      rw [hlnn]; simp
  rcases hv with ⟨hio, rfl, hl0, _⟩ | ⟨b, cap, arr, hio, rfl, hcap, hcm, hh, hsz, hln⟩
  · have hl0 : l = [] := List.eq_nil_of_length_eq_zero hl0
    subst hl0
    rcases hu with ⟨⟨p, pc, rfl⟩, rfl⟩ | ⟨c, off, cc, arr, ty', fz, rfl, hh, hr⟩
    · exact ⟨.slice none 0 0, w, updio io k none, run_append_empty (hT _ _ ht) hd (hT _ _ he) _ 0 0 none ⟨_, _, rfl⟩ (Nat.le_refl _), stay none rfl hio, stayV none _ rfl hio hv0⟩
    · by_cases hm : l2.length = 0
      · have hm0 : l2 = [] := List.eq_nil_of_length_eq_zero hm
        subst hm0
        exact ⟨.slice none 0 0, w, updio io k none, run_append_empty (hT _ _ ht) hd (hT _ _ he) _ 0 0 none ⟨_, _, rfl⟩ (Nat.le_refl _), stay none rfl hio, stayV none _ rfl hio hv0⟩
      · obtain ⟨news, n1, n2, n3, n4⟩ := lra_vals l2 off hr
        have hrun := run_append_nil (P := X.P) w t ty e i ed.zero hund hi hiz ⟨c, off, none⟩ l2.length cc news (by rw [his]; exact n1) (fun j x hj => by
          rw [add_plain]
          have hj' : j < news.length := (List.getElem?_eq_some_iff.1 hj).1
          simp [World.cell?, hh, n2 j hj', hj]) (by omega) (by simp at hlen; omega) (by rw [hib]; simp at hby; omega)
        have hge := grownCap_ge w l2.length 0 e
        obtain ⟨f1, f2⟩ := fresh [] news (grownCap w l2.length 0 e) (by simp) (fun i a hi => by simp at hi) n1 n3 (by simp; omega) (grownCap_le_maxLen w l2.length 0 e (by simp at hlen; omega))
        refine ⟨_, _, updio io k (some w.heap.size), hrun, ?_, ?_⟩
        · simpa using f1
        · simpa using f2
  · have hbr := hs.bl k _ hk
    simp only [BR] at hbr
    rcases hbr with ⟨h, _⟩ | ⟨b', arr', h1, hF, hA, hh', hr⟩
    · rw [hio] at h; cases h
    · rw [hio] at h1; cases h1
      rw [hh] at hh'; cases hh'
      by_cases hm0 : l2 = [] 
      · subst hm0
        refine ⟨_, w, updio io k (some b), run_append_empty (hT _ _ ht) hd (hT _ _ he) u l.length cap _ ?_ hcap, stay _ rfl hio, stayV _ _ rfl hio hv0⟩
        rcases hu with ⟨⟨p, c0, rfl⟩, _⟩ | ⟨c, off, cc, arr, ty', fz, rfl, _, _⟩
        · cases p
          · exact ⟨_, _, rfl⟩
          · exact ⟨_, _, rfl⟩
        · exact ⟨_, _, rfl⟩
      · have hl2 : l2.length ≠ 0 := fun h => hm0 (List.eq_nil_of_length_eq_zero h)
        rcases hu with ⟨_, h⟩ | ⟨c, off, cc, arr2, ty', fz, rfl, hh2, hr2⟩
        · exact absurd h hm0
        obtain ⟨news, n1, n2, n3, n4⟩ := lra_vals l2 off hr2
        obtain ⟨vals, v1, v2, v3, v4⟩ := lra_vals l 0 hr
        have hva : ∀ j, j < vals.length → arr[j]? = vals[j]? := fun j hj => by have := v2 j hj; simpa using this
        have hcell : ∀ (j : Nat) x, news[j]? = some x → w.cell? ((⟨c, off, none⟩ : Addr).add j) = some x := fun j x hj => by
          rw [add_plain]
          have hj' : j < news.length := (List.getElem?_eq_some_iff.1 hj).1
          simp [World.cell?, hh2, n2 j hj', hj]
        have hle : vals.length ≤ arr.size := by
          rw [v1, hsz]; exact Nat.mul_le_mul_right _ (by omega)
        have hpre : arr.toList.take (l.length * ed.size) = vals := by
          apply List.ext_getElem?
          intro j
          rw [List.getElem?_take]
          split
          · rename_i hj
            have := hva j (by omega)
            simpa using this
          · rename_i hj
            rw [List.getElem?_eq_none (by omega)]
        by_cases hroom : l.length + l2.length ≤ cap
        · have hfit : l.length * i.size + news.length ≤ arr.size := by
            rw [his, n1, hsz, ← Nat.add_mul]; exact Nat.mul_le_mul_right _ (by omega)
          have hrun := run_append_room (P := X.P) w t ty e i hund hi b l.length cap arr (by simpa using hh) ⟨c, off, none⟩ l2.length cc news (by rw [his]; exact n1) hcell n4 hroom hfit
          rw [his] at hrun hfit
          have hsz' : (arr.toList.take (l.length * ed.size) ++ news ++ arr.toList.drop (l.length * ed.size + news.length)).toArray.size = arr.size := by simp; omega
          have hlra : LRA F w (fun j => (arr.toList.take (l.length * ed.size) ++ news ++ arr.toList.drop (l.length * ed.size + news.length)).toArray[j]?) 0 ed.size en (l ++ l2) := by
            rw [hpre]
            refine LRA.of_prefix (us := vals ++ news) (by simp [v1, n1, Nat.add_mul]) (LRA.append v1 v3 n3) fun j hj => ?_
            rw [List.getElem?_toArray, List.getElem?_append_left hj]
          have hw := hs.write (by rw [hk]; simp) hio hF hA hh hsz' (nb := .data e ed.size en z (l ++ l2)) (by rw [hlk]; simp [Blk.ln]) (.inl ⟨_, _, _, _, _, rfl, hlra⟩)
          have hself := setRow_heap w b arr (arr.toList.take (l.length * ed.size) ++ news ++ arr.toList.drop (l.length * ed.size + news.length)).toArray e _ hh
          have e0 : (⟨b, 0 * ed.size, none⟩ : Addr) = ⟨b, 0, none⟩ := by simp
          rw [e0]
          refine ⟨_, _, updio io k (some b), hrun, ?_, ?_⟩
          · have hkill := hw.kill k (some b) hK
            have heq : (s.withBlk k (.data e ed.size en z (l ++ l2))).sub k none = s.sub k none := by
              unfold St.sub St.withBlk
              congr 1
              funext j
              cases hb : Nat.beq j k <;> simp [hb]
            rw [heq] at hkill
            refine SR.setBlk hkill (by rw [sub_ln_same]; exact Nat.zero_le _) ?_ fun j c hne hj e1 e2 => ?_
            · have hb2 := hw.bl k _ withBlk_same
              simp only [BR] at hb2 ⊢
              rw [show (((s.sub k none).withBlk k (.data e ed.size en z (l ++ l2))).keys (updio io k (some b))).io k = some b from updio_same _ _ _]
              rcases hb2 with ⟨h, _⟩ | h
              · rw [show ((s.withBlk k (.data e ed.size en z (l ++ l2))).keys io).io k = io k from rfl, show io k = some b from hio] at h; cases h
              · obtain ⟨b2, x2, g1, g⟩ := h
                rw [show ((s.withBlk k (.data e ed.size en z (l ++ l2))).keys io).io k = io k from rfl, show io k = some b from hio] at g1; cases g1
                exact .inr ⟨b, x2, rfl, g⟩
            · rw [updio_same] at e2; cases e2
              obtain ⟨b0, hb0⟩ := Option.ne_none_iff_exists'.1 hj
              obtain ⟨_, c1, g1, _⟩ := sub_blk hb0
              rw [updio_ne _ _ hne] at e1
              exact hne (hs.inj j k _ (by rw [g1]; simp) (by rw [hk]; simp) e1 hio)
          · simp only [VR]
            refine .inr ⟨b, cap, _, updio_same _ _ _, by simp, by simpa using hroom, hcm, hself, by rw [hsz', hsz], ?_⟩
            show _ ≤ (s.new k _).ln k
            rw [hlnn]; simp
        · have holds : ∀ (j : Nat) x, vals[j]? = some x → w.cell? ((⟨b, 0 * ed.size, none⟩ : Addr).add j) = some x := fun j x hj => by
            rw [add_plain]
            have hj' : j < vals.length := (List.getElem?_eq_some_iff.1 hj).1
            simp [World.cell?, hh, hva j hj', hj]
          have hrun := run_append_grow (P := X.P) w t ty e i ed.zero hund hi hiz ⟨b, 0 * ed.size, none⟩ l.length cap vals (by rw [his]; exact v1) holds ⟨c, off, none⟩ l2.length cc news (by rw [his]; exact n1) hcell (by omega) (by omega) (growslice_fits (by omega) (by rw [hib]; exact hby))
          have hge := grownCap_ge w (l.length + l2.length) cap e
          obtain ⟨f1, f2⟩ := fresh vals news (grownCap w (l.length + l2.length) cap e) v1 v3 n1 n3 (by simp; omega) (grownCap_le_maxLen w (l.length + l2.length) cap e (by omega))
          refine ⟨_, _, updio io k (some w.heap.size), hrun, ?_, ?_⟩
          · simpa using f1
          · simpa using f2
end Go.Vw

/-
  append as a step; slice literals. Conditions: the table of types is the program's.
-/
namespace Go.Vw
open Go.RowKit

def SrcOk (X : Ctx) (s : St) (y : V) (sz : Nat) {α : Type} (e : α → List D) (l : List α) : Prop :=
  ∀ io F a w v, SR X io F s a w → VR (s.keys io) F w y v → SrcT F w v sz e l

theorem src_data {X : Ctx} {s : St} {y : D} {sz : Nat} {α : Type} {e : α → List D} {z : α} {l : List α} (h : LeD y (.sl sz e z l)) : SrcOk X s (.d y) sz e l := fun io F a w v hs hv =>
  src_of_data (z := z) (h F w v (by simpa only [VR] using hv))
theorem src_own {X : Ctx} {s : St} {k o n : Nat} {ty ty' : TypeId} {sz : Nat} {α : Type} {e : α → List D} {z : α} {l : List α} (hk : s.blk k = some (.data ty' sz e z l)) : SrcOk X s (.own k o n ty sz) sz e (cut o n l) := fun io F a w v hs hv => by
  simp only [VR] at hv
  have hb := hs.bl k _ hk
  simp only [BR] at hb
  rcases hv with ⟨h0, rfl, rfl, rfl⟩ | ⟨b, cap, arr, h1, rfl, h3, h4, h5, h6, h7⟩
  · exact .inl ⟨⟨_, _, rfl⟩, by rw [cut_eq]; simp⟩
  · rcases hb with ⟨g, _⟩ | ⟨b', arr', g1, _, _, g4, g5⟩
    · rw [g] at h1; cases h1
    · rw [h1] at g1; cases g1
      have hln : (s.keys io).ln k = l.length := ln_of hk
      have hz : (cut o n l).length = n := by rw [cut_eq]; simp; omega
      refine .inr ⟨b, o * sz, cap, arr', ty', (0, 0), by rw [hz], g4, fun i a hi => ?_⟩
      rw [cut_eq, List.getElem?_take] at hi
      split at hi
      · rw [List.getElem?_drop] at hi
        have := g5 _ a hi
        refine ⟨this.1, ?_⟩
        have h2 := this.2
        rwa [Nat.zero_add, Nat.add_mul] at h2
      · cases hi
theorem run_append {P : Program} {ev : Operand → Value} {dst : Option Tmp} {y z : Operand} {t ty : TypeId} {pos : String} {after : Array Edge} {g : Option (Nat × Bool)} {w w' : World} {v : Value} (hv : (Builtin.append_ #[t, t] ty #[ev y, ev z]).run P w = .ok v w') : (execOp ev ⟨dst, .call ⟨.builtin .append, #[y, z], #[t, t]⟩, ty, pos, after, g⟩).run P w = .ok (.value v) w' := by
  simp [execOp, resolve, invoke, builtin, hv]

section
variable {X : Ctx} {T : TypeId → Option TyD} (hT : TabOk X.P T) {all : Array Oper} {s : St} {x y : Operand} {t ty e : TypeId} {pos : String} {after : Array Edge} {g : Option (Nat × Bool)} {d : Tmp} {td ed : TyD} {k n : Nat} {α : Type} {en : α → List D} {z : α} {l l2 : List α}
  (hg : gd all s ⟨some d, .call ⟨.builtin .append, #[x, y], #[t, t]⟩, ty, pos, after, g⟩ = some true) (hd : dstOk X.N (some d) = true) (ht : T t = some td) (hds : td.desc = .slice e) (he : T e = some ed)
include hT hg hd ht hds he

theorem e_append (hK : X.K.contains k = false) (hx : s.opd x = .own k 0 n e ed.size) (hk : s.blk k = some (.data e ed.size en z l)) (hn : n = l.length) (hy : SrcOk X s (s.opd y) ed.size en l2) (hz : zeroOk ed = true) (hb : l.length + l2.length ≤ 9223372036854775807 ∧ (l.length + l2.length) * ed.bytes ≤ 140737488355328) :
    E1 X all s ⟨some d, .call ⟨.builtin .append, #[x, y], #[t, t]⟩, ty, pos, after, g⟩ ((s.new k (.data e ed.size en z (l ++ l2))).put (some d) (.own k 0 (l ++ l2).length e ed.size)) := by
  intro io F a w hs K Q hQ
  have hv := hs.opd x
  rw [hx] at hv
  obtain ⟨v', w', io', h1, h2, h3⟩ := append_own (ty := ty) hT hs ht hds he (notMem hK) hk hv hn (hy io F a w _ hs (hs.opd y)) hz (by unfold maxLen; omega) hb.2
  exact opWp_value (gd_sound (fun t _ => hs.tm t) hg) (run_append h1) (hQ io' F _ _ (h2.put (dstOk_sound hd) h3))

theorem e_appnil (hK : X.K.contains d = false) (hx : s.opd x = .d .nils) (hy : SrcOk X s (s.opd y) ed.size en l2) (hz : zeroOk ed = true) (hb : l2.length ≤ 9223372036854775807 ∧ l2.length * ed.bytes ≤ 140737488355328) :
    E1 X all s ⟨some d, .call ⟨.builtin .append, #[x, y], #[t, t]⟩, ty, pos, after, g⟩ (((s.new d (.data e ed.size en z [])).new d (.data e ed.size en z l2)).put (some d) (.own d 0 l2.length e ed.size)) := by
  intro io F a w hs K Q hQ
  have hv := hs.opd x
  rw [hx] at hv
  simp only [VR, DR] at hv
  have hs0 : SR X (updio io d none) F (s.new d (.data e ed.size en z [])) a w := SR.setBlk (hs.kill d none (notMem hK)) (by rw [sub_ln_same]; exact Nat.zero_le _) (by simp only [BR]; exact .inl ⟨updio_same _ _ _, trivial⟩) fun j c _ _ _ h => by rw [updio_same] at h; cases h
  obtain ⟨v', w', io', h1, h2, h3⟩ := append_own (ty := ty) (k := d) (n := 0) (l := []) (z := z) (v := a.eval x) hT hs0 ht hds he (notMem hK) withBlk_same (by simp only [VR]; exact .inl ⟨updio_same _ _ _, hv, trivial, trivial⟩) rfl (hy io F a w _ hs (hs.opd y)) hz (by unfold maxLen; simpa using hb.1) (by simpa using hb.2)
  exact opWp_value (gd_sound (fun t _ => hs.tm t) hg) (run_append h1) (hQ io' F _ _ (h2.put (dstOk_sound hd) h3))
end

/-! ## Literals -/

def grp (sz : Nat) : Nat → List D → Option (List (List D))
  | 0, _ => some []
  | n + 1, ds => match segD ds 0 sz, grp sz n (ds.drop sz) with | some r, some rs => some (r :: rs) | _, _ => none
theorem grp_spec {sz : Nat} : ∀ {n : Nat} {ds : List D} {rows : List (List D)}, grp sz n ds = some rows → rows.length = n ∧ ∀ (i : Nat) (r : List D), rows[i]? = some r → r.length = sz ∧ ∀ j, j < sz → r[j]? = ds[i * sz + j]?
  | 0, ds, rows, h => by simp [grp] at h; subst h; simp
  | n + 1, ds, rows, h => by
    simp only [grp] at h
    split at h
    · rename_i r rs h1 h2
      simp only [Option.some.injEq] at h; subst h
      obtain ⟨s1, s2⟩ := segD_spec h1
      obtain ⟨g1, g2⟩ := grp_spec h2
      refine ⟨by simp [g1], fun i r' hi => ?_⟩
      cases i with
      | zero =>
        simp at hi; subst hi
        refine ⟨s1, fun j hj => ?_⟩
        have := s2 j hj
        rw [Nat.zero_mul]; exact this.symm
      | succ i =>
        simp at hi
        obtain ⟨q1, q2⟩ := g2 i r' hi
        refine ⟨q1, fun j hj => ?_⟩
        rw [q2 j hj, List.getElem?_drop]
        congr 1; rw [Nat.add_mul]; omega
    · cases h

def evalB (T : TypeId → Option TyD) (s : St) : Op → Option (TypeId × Nat × Nat × List (List D))
  | .buildSlice t len parts => match T t with
    | some td => match td.desc with
      | .slice e => match T e with
        | some ed => match zeroOk ed && Nat.ble (len * ed.size) 16777216 with
          | true => match fillD (fun i => some (i * ed.size, ed.size)) ((List.replicate len (D.ofV ed.zero).cells).flatten.map V.d) (parts.toList.map fun p => (p.1, s.opd p.2)) with
            | some cells => match allD cells with
              | some ds => match grp ed.size len ds with
                | some rows => some (e, ed.size, len, rows)
                | none => none
              | none => none
            | none => none
          | false => none
        | none => none
      | _ => none
    | none => none
  | _ => none

theorem evalB_sound {P : Program} {T : TypeId → Option TyD} (hT : TabOk P T) {io : Keys} {F : Nat → Prop} {s : St} {w : World} {ev : Operand → Value} (o : Oper) (ho : ∀ y ∈ o.op.operands.toList, VR io F w (s.opd y) (ev y)) {e : TypeId} {sz len : Nat} {rows : List (List D)} (h : evalB T s o.op = some (e, sz, len, rows)) :
    rows.length = len ∧ ∃ arr, (execOp ev o).run P w = .ok (.value (.slice (some ⟨w.heap.size, 0, none⟩) len len)) (w.alloc (.cells arr e)) ∧ arr.size = len * sz ∧ len ≤ 16777216 ∧ ∀ (i : Nat) (r : List D), rows[i]? = some r → r.length = sz ∧ DRA F w (fun j => arr[j]?) (i * sz) r := by
  obtain ⟨dst, op, ty, pos, after, guard⟩ := o
  cases op <;> simp only [evalB, Op.operands] at h ho <;> try (cases h; done)
  case buildSlice t n parts =>
    split at h
    · rename_i td htd
      split at h
      · rename_i e' he
        split at h
        · rename_i ed hed
          split at h
          · rename_i hok
            simp only [Bool.and_eq_true] at hok
            obtain ⟨z1, z2, z3, z4⟩ := zeroOk_sound (F := F) (w := w) hok.1
            have hle := Nat.le_of_ble_eq_true hok.2
            split at h
            · rename_i cells hf
              split at h
              · rename_i ds hds
                split at h
                · rename_i rows' hrows
                  simp only [Option.some.injEq, Prod.mk.injEq] at h; obtain ⟨rfl, rfl, rfl, rfl⟩ := h
                  obtain ⟨g1, g2⟩ := grp_spec hrows
                  refine ⟨g1, ?_⟩
                  have hu := (hT _ _ htd).runU w
                  rw [he] at hu
                  have hzero : VRL io F w ((List.replicate n (D.ofV ed.zero).cells).flatten.map V.d) ((List.replicate n ed.zero.cells.toList).flatten.toArray).toList := by
                    refine ⟨by simp [z1, z2], ?_⟩
                    rw [VRA_iff]
                    intro i c hi
                    rw [List.getElem?_map, Option.map_eq_some_iff] at hi
                    obtain ⟨x, hx, rfl⟩ := hi
                    have hlt : i < n * ed.size := by have := (List.getElem?_eq_some_iff.1 hx).1; simpa [z2] using this
                    have hgen : ∀ (m : Nat) (l : List D) (i : Nat), i < m * l.length → (List.replicate m l).flatten[i]? = l[i % l.length]? := by
                      intro m l
                      induction m with
                      | zero => intro i h; simp at h
                      | succ m ih =>
                        intro i h
                        simp only [List.replicate_succ, List.flatten_cons]
                        by_cases h' : i < l.length
                        · rw [List.getElem?_append_left h', Nat.mod_eq_of_lt h']
                        · rw [List.getElem?_append_right (by omega), ih (i - l.length) (by rw [Nat.succ_mul] at h; omega), ← Nat.mod_eq_sub_mod (by omega)]
                    rw [hgen n _ i (by rw [z2]; exact hlt), z2] at hx
                    obtain ⟨v, q1, q2, q3⟩ := DRA_iff.1 z4 _ x hx
                    refine ⟨v, ?_, q2, by simpa only [VR] using q3⟩
                    simp only [Nat.zero_add] at q1 ⊢
                    rw [List.toList_toArray, flat_get _ n i (by simpa [z1] using hlt)]
                    simpa [z1] using q1
                  obtain ⟨cells', hc1, hc2⟩ := fill_sound (place' := fun i => some (i * ed.size, ed.size)) (fun i p h => h) _ (parts.map fun (i, x) => (i, ev x)).toList _ _ _ hf hzero (by simp) (fun j i x v i' hp hq => by
                    simp only [List.getElem?_map, Array.toList_map, Option.map_eq_some_iff] at hp hq
                    obtain ⟨p, hp1, hp2⟩ := hp
                    obtain ⟨q, hq1, hq2⟩ := hq
                    rw [hp1] at hq1
                    cases hq1
                    cases hp2
                    cases hq2
                    exact ⟨rfl, ho _ (by simp only [List.mem_map]; exact ⟨p, List.mem_of_getElem? hp1, rfl⟩)⟩)
                  have hsize : cells'.size = n * ed.size := by
                    have : ∀ (ps : List (Nat × V)) (cs cs' : List V), fillD (fun i => some (i * ed.size, ed.size)) cs ps = some cs' → cs'.length = cs.length := by
                      intro ps
                      induction ps with
                      | nil => intro cs cs' h; simp [fillD] at h; rw [h]
                      | cons p ps ih =>
                        intro cs cs' h
                        simp only [fillD] at h
                        split at h
                        · rename_i hb
                          simp only [Bool.and_eq_true] at hb
                          have e1 := Nat.eq_of_beq_eq_true hb.1.2
                          have e2 := Nat.le_of_ble_eq_true hb.2
                          rw [ih _ _ h]
                          simp; omega
                        · cases h
                    have h1 := this _ _ _ hf
                    have h2 := hc2.1
                    simp [z2] at h1 h2
                    omega
                  have hrun : (Instr.buildSlice t n (parts.map fun (i, x) => (i, ev x))).run P w = .ok (.slice (some ⟨w.heap.size, 0, none⟩) n n) (w.alloc (.cells cells' e')) := by
                    simp only [Instr.buildSlice, Sem.run_bind, hu, Result.andThen_ok, (hT _ _ hed).runS]
                    rw [if_neg (by omega)]
                    by_cases hz : n * ed.size = 0
                    · have hl0 : n = 0 := by
                        rcases Nat.mul_eq_zero.1 hz with h | h
                        · exact h
                        · omega
                      subst hl0
                      simp only [Nat.zero_mul, if_true, Sem.run_bind, Sem.run_pure, Result.andThen_ok]
                      have : (Array.map (fun x => (#[] : Array Value)[x % (#[] : Array Value).size]!) (Array.range 0)) = (List.replicate 0 ed.zero.cells.toList).flatten.toArray := Array.ext' (by simp)
                      rw [this, hc1]
                      simp [newRow]
                    · simp only [hz, if_false, Sem.run_bind, (hT _ _ hed).runZ, Sem.run_pure, Result.andThen_ok]
                      have := range_zero ed.zero.cells (by omega) n
                      rw [z1] at this
                      rw [z1, this, hc1]
                      simp [newRow]
                  refine ⟨cells', by simp only [execOp, Sem.run_bind, hrun, Result.andThen_ok]; rfl, hsize, ?_, fun i r hi => ?_⟩
                  · have : n * 1 ≤ n * ed.size := Nat.mul_le_mul_left _ z3
                    omega
                  · obtain ⟨q1, q2⟩ := g2 i r hi
                    refine ⟨q1, ?_⟩
                    have hd := VRA.ofD hds hc2.2
                    rw [DRA_iff] at hd ⊢
                    intro j c hj
                    have hj' : j < ed.size := q1 ▸ (List.getElem?_eq_some_iff.1 hj).1
                    have := hd (i * ed.size + j) c (by rw [← q2 j hj']; exact hj)
                    simpa using this
                · cases h
              · cases h
            · cases h
          · cases h
        · cases h
      · cases h
    · cases h

theorem m_lit {X : Ctx} {T : TypeId → Option TyD} (hT : TabOk X.P T) {all : Array Oper} {s : St} {o : Oper} {e : TypeId} {sz len : Nat} {rows : List (List D)} (hg : gd all s o = some true) (h : evalB T s o.op = some (e, sz, len, rows)) : M1 X all s o (.d (.sl sz (nth [] rows) 0 (iota len 0))) := fun io F a w ht hb hF K Q hK => by
  obtain ⟨h1, arr, h2, h3, h4, h5⟩ := evalB_sound (P := X.P) hT o (operands_of ht) h
  refine opWp_value (gd_sound ht hg) h2 (hK (fun b => F b ∨ b = w.heap.size) _ _ (below_alloc w _) (fun b h => .inl h) (fun b h => ?_) ?_)
  · rcases h with h | h
    · exact .inl h
    · exact .inr ⟨by omega, by simp; omega⟩
  · simp only [VR, DR]
    refine .inr ⟨w.heap.size, 0, len, arr, e, (0, 0), by rw [iota_len], by rw [iota_len]; exact Nat.le_refl _, .inr rfl, heap_alloc_new w _, fun i a hi => ?_⟩
    have hlt : i < len := by have := (List.getElem?_eq_some_iff.1 hi).1; rwa [iota_len] at this
    rw [iota_get hlt] at hi
    simp only [Option.some.injEq, Nat.zero_add] at hi
    subst hi
    have hr := List.getElem?_eq_getElem (show i < rows.length by omega)
    obtain ⟨q1, q2⟩ := h5 i _ hr
    rw [nth_of hr]
    refine ⟨q1, DRA.mono (w := w) (F := F) (fun _ h => .inl h) (fun b h => (below_alloc w _).block b (hF b h)) _ _ _ ?_⟩
    simpa using q2

theorem m_litF {X : Ctx} {T : TypeId → Option TyD} (hT : TabOk X.P T) {all : Array Oper} {s : St} {o : Oper} {e : TypeId} {sz len : Nat} {rows : List (List D)} (hg : gd all s o = some true) (h : evalB T s o.op = some (e, sz, len, rows)) : M1 X all s o (.d (.full (.sl sz (nth [] rows) 0 (iota len 0)))) := fun io F a w ht hb hF K Q hK => by
  obtain ⟨h1, arr, h2, h3, h4, h5⟩ := evalB_sound (P := X.P) hT o (operands_of ht) h
  refine opWp_value (gd_sound ht hg) h2 (hK (fun b => F b ∨ b = w.heap.size) _ _ (below_alloc w _) (fun b h => .inl h) (fun b h => ?_) ?_)
  · rcases h with h | h
    · exact .inl h
    · exact .inr ⟨by omega, by simp; omega⟩
  · simp only [VR, DR]
    refine ⟨⟨_, _, rfl⟩, .inr ⟨w.heap.size, 0, len, arr, e, (0, 0), by rw [iota_len], by rw [iota_len]; exact Nat.le_refl _, .inr rfl, heap_alloc_new w _, fun i a hi => ?_⟩⟩
    have hlt : i < len := by have := (List.getElem?_eq_some_iff.1 hi).1; rwa [iota_len] at this
    rw [iota_get hlt] at hi
    simp only [Option.some.injEq, Nat.zero_add] at hi
    subst hi
    have hr := List.getElem?_eq_getElem (show i < rows.length by omega)
    obtain ⟨q1, q2⟩ := h5 i _ hr
    rw [nth_of hr]
    refine ⟨q1, DRA.mono (w := w) (F := F) (fun _ h => .inl h) (fun b h => (below_alloc w _).block b (hF b h)) _ _ _ ?_⟩
    simpa using q2

theorem m_appF {X : Ctx} {T : TypeId → Option TyD} (hT : TabOk X.P T) {all : Array Oper} {s : St} {o : Oper} {x y : Operand} {t e : TypeId} {td ed : TyD} {α : Type} {en : α → List D} {z : α} {l l2 : List α} {d1 d2 : D} (hop : o.op = .call ⟨.builtin .append, #[x, y], #[t, t]⟩) (hg : gd all s o = some true) (ht' : T t = some td) (hds : td.desc = .slice e) (he : T e = some ed) (hx : s.opd x = .d (.full d1)) (le1 : LeD d1 (.sl ed.size en z l)) (hy : s.opd y = .d d2) (le2 : LeD d2 (.sl ed.size en z l2)) (hz : zeroOk ed = true) (hb' : l.length + l2.length ≤ 9223372036854775807 ∧ (l.length + l2.length) * ed.bytes ≤ 140737488355328) : M1 X all s o (.d (.sl ed.size en z (l ++ l2))) := fun io F a w ht hb hF K Q hK => by
  obtain ⟨dst, op, ty, pos, after, g⟩ := o
  cases hop
  have hop' := operands_of ht
  have hvx := hop' x (by simp [Op.operands, Call.operands])
  have hvy := hop' y (by simp [Op.operands, Call.operands])
  rw [hx] at hvx
  rw [hy] at hvy
  simp only [VR] at hvx hvy
  have hvy := le2 F w _ hvy
  simp only [DR] at hvx
  obtain ⟨⟨p, n, hev⟩, hvx⟩ := hvx
  have hvx := le1 F w _ hvx
  obtain ⟨i, hi, his, hib, hiz⟩ := (hT _ _ he).inf
  obtain ⟨z1, z2, z3, z4⟩ := zeroOk_sound (F := F) (w := w) hz
  have hund := (hT _ _ ht').und
  rw [hds] at hund
  have hmx : maxLen = 9223372036854775807 := rfl
  have fin : ∀ (v' : Value) (w' : World) (F' : Nat → Prop), (Builtin.append_ #[t, t] ty #[a.eval x, a.eval y]).run X.P w = .ok v' w' → Below w.heap.size w w' → (∀ b, F b → F' b) → (∀ b, F' b → F b ∨ (w.heap.size ≤ b ∧ b < w'.heap.size)) → DR F' w' (.sl ed.size en z (l ++ l2)) v' → opWp X.P all ⟨dst, .call ⟨.builtin .append, #[x, y], #[t, t]⟩, ty, pos, after, g⟩ a w K Q := fun v' w' F' h1 h2 h3 h4 h5 => opWp_value (gd_sound ht hg) (run_append h1) (hK F' w' v' h2 h3 h4 (by simpa only [VR] using h5))
  rw [hev] at fin hvx
  have fresh : ∀ (v1 : Value) (vals news : List Value) (cap : Nat), vals.length = l.length * ed.size → LRA F w (fun j => vals[j]?) 0 ed.size en l → news.length = l2.length * ed.size → LRA F w (fun j => news[j]?) 0 ed.size en l2 → (l ++ l2).length ≤ cap → (Builtin.append_ #[t, t] ty #[.slice p n n, a.eval y]).run X.P w = .ok (.slice (some ⟨w.heap.size, 0, none⟩) (l ++ l2).length cap) (w.drew.alloc (.cells (vals.toArray ++ news.toArray ++ Builtin.zeroCells ed.zero.cells (cap - (l ++ l2).length)) e)) → opWp X.P all ⟨dst, .call ⟨.builtin .append, #[x, y], #[t, t]⟩, ty, pos, after, g⟩ a w K Q := fun v1 vals news cap h1 h2 h3 h4 h5 h6 => by
    have hap := LRA.append h1 h2 h4
    have hap2 : LRA F w (fun j => (vals.toArray ++ news.toArray ++ Builtin.zeroCells ed.zero.cells (cap - (l ++ l2).length))[j]?) 0 ed.size en (l ++ l2) := LRA.of_prefix (us := vals ++ news) (by simp [h1, h3, Nat.add_mul]) hap fun j hj => by
      rw [Array.getElem?_append_left (by simpa using hj)]
      simp
    have hbw : Below w.heap.size w (w.drew.alloc (.cells (vals.toArray ++ news.toArray ++ Builtin.zeroCells ed.zero.cells (cap - (l ++ l2).length)) e)) := ((Below.refl _ _).drew).alloc (Nat.le_refl _) _
    refine fin _ _ (fun b => F b ∨ b = w.heap.size) h6 hbw (fun b h => .inl h) (fun b h => ?_) ?_
    · rcases h with h | h
      · exact .inl h
      · exact .inr ⟨by omega, by subst h; exact lt_of_heap (heap_alloc_new w.drew _)⟩
    · simp only [DR]
      refine .inr ⟨w.heap.size, 0, cap, _, e, (0, 0), rfl, h5, .inr rfl, heap_alloc_new w.drew _, fun i a hi => ?_⟩
      obtain ⟨q1, q2⟩ := hap2 i a hi
      exact ⟨q1, DRA.mono (w := w) (F := F) (fun _ h => .inl h) (fun b h => hbw.block b (hF b h)) _ _ _ q2⟩
  by_cases hm0 : l2 = []
  · subst hm0
    have hs : ∃ q c, a.eval y = .slice q 0 c := by
      simp only [DR] at hvy
      rcases hvy with ⟨⟨q, c, h⟩, _⟩ | ⟨b, off, cap, arr, ty', fz, h, _⟩
      · exact ⟨_, _, h⟩
      · exact ⟨_, _, h⟩
    refine fin (.slice p n n) w F (run_append_empty (hT _ _ ht') hds (hT _ _ he) _ n n p hs (Nat.le_refl _)) (Below.refl _ _) (fun _ h => h) (fun _ h => .inl h) ?_
    simpa using hvx
  · have hl2 : l2.length ≠ 0 := fun h => hm0 (List.eq_nil_of_length_eq_zero h)
    simp only [DR] at hvy
    rcases hvy with ⟨_, h⟩ | ⟨c, off, cc, arr2, ty', fz, hvy, _, _, hh2, hr2⟩
    · exact absurd h hm0
    obtain ⟨news, n1, n2, n3, n4⟩ := lra_vals l2 off (g := fun j => arr2[j]?) (F := F) (w := w) hr2
    have hcell : ∀ (j : Nat) x, news[j]? = some x → w.cell? ((⟨c, off, none⟩ : Addr).add j) = some x := fun j x hj => by
      rw [add_plain]
      have hj' : j < news.length := (List.getElem?_eq_some_iff.1 hj).1
      simp [World.cell?, hh2, n2 j hj', hj]
    rw [hvy] at fresh
    simp only [DR] at hvx
    rcases hvx with ⟨⟨p', c', hev2⟩, rfl⟩ | ⟨b, off1, cap1, arr, ty1, fz1, hev2, _, _, hh, hr⟩
    · injection hev2 with e1 e2 e3
      subst e1 e2
      cases p with
      | some q =>
        have hrun := run_append_grow (P := X.P) w t ty e i ed.zero hund hi hiz q 0 0 [] (by simp) (fun j x hj => by simp at hj) ⟨c, off, none⟩ l2.length cc news (by rw [his]; exact n1) hcell (by omega) (by omega) (growslice_fits (by omega) (by rw [hib]; simp at hb'; simpa using hb'.2))
        have hge := grownCap_ge w (0 + l2.length) 0 e
        rw [Nat.zero_add] at hrun hge
        refine fresh undef [] news (grownCap w l2.length 0 e) (by simp) (fun i a hi => by simp at hi) n1 n3 (by simp; omega) ?_
        simpa using hrun
      | none =>
      have hrun := run_append_nil (P := X.P) w t ty e i ed.zero hund hi hiz ⟨c, off, none⟩ l2.length cc news (by rw [his]; exact n1) hcell (by omega) (by simp at hb'; omega) (by rw [hib]; simp at hb'; omega)
      have hge := grownCap_ge w l2.length 0 e
      refine fresh undef [] news (grownCap w l2.length 0 e) (by simp) (fun i a hi => by simp at hi) n1 n3 (by simp; omega) ?_
      simpa using hrun
    · injection hev2 with e1 e2 e3
      subst e1 e2
      subst e3
      obtain ⟨vals, v1, v2, v3, v4⟩ := lra_vals l off1 (g := fun j => arr[j]?) (F := F) (w := w) hr
      have holds : ∀ (j : Nat) x, vals[j]? = some x → w.cell? ((⟨b, off1, none⟩ : Addr).add j) = some x := fun j x hj => by
        rw [add_plain]
        have hj' : j < vals.length := (List.getElem?_eq_some_iff.1 hj).1
        simp [World.cell?, hh, v2 j hj', hj]
      have hrun := run_append_grow (P := X.P) w t ty e i ed.zero hund hi hiz ⟨b, off1, none⟩ l.length l.length vals (by rw [his]; exact v1) holds ⟨c, off, none⟩ l2.length cc news (by rw [his]; exact n1) hcell (by omega) (by omega) (growslice_fits (by omega) (by rw [hib]; exact hb'.2))
      have hge := grownCap_ge w (l.length + l2.length) l.length e
      refine fresh undef vals news (grownCap w (l.length + l2.length) l.length e) v1 v3 n1 n3 (by simp; omega) ?_
      simpa using hrun

end Go.Vw

/-
  Contracts, calls, lists of operations and code. Conditions: the table of types is the program's.
-/
namespace Go.Vw
open Go.RowKit

def Enters (P : Program) (f : FuncId) : Prop := ∃ fn, P.funcs[f]? = some fn ∧ (fn.name == "runtime.NumGoroutine") = false ∧ fn.body.isNone = false

structure Ret (P : Program) (f : FuncId) (ds : List D) (R : D → Prop) : Prop where
  enters : Enters P f
  run : ∀ (F : Nat → Prop) (w : World) (vs : Array Value), (∀ b, F b → b < w.heap.size) → vs.size = ds.length → DRT F w (fun i => vs[i]?) 0 ds →
    Calls P f vs w fun e w' => ∃ v r F', e = .returned v ∧ R r ∧ Below w.heap.size w w' ∧ (∀ b, F b → F' b) ∧ (∀ b, F' b → F b ∨ (w.heap.size ≤ b ∧ b < w'.heap.size)) ∧ DR F' w' r v

theorem Ret.mono {P : Program} {f : FuncId} {ds : List D} {R R' : D → Prop} (h : Ret P f ds R) (hr : ∀ r, R r → R' r) : Ret P f ds R' :=
  ⟨h.enters, fun F w vs hF hl hv => (h.run F w vs hF hl hv).mono fun _ _ ⟨v, r, F', e, h1, h2⟩ => ⟨v, r, F', e, hr r h1, h2⟩⟩
theorem Ret.to {P : Program} {f : FuncId} {ds : List D} {r r' : D} (h : Ret P f ds (· = r)) (e : r = r') : Ret P f ds (· = r') := e ▸ h
theorem Ret.args {P : Program} {f : FuncId} {ds ds' : List D} {R : D → Prop} (h : Ret P f ds' R) (hl : LeT ds ds') : Ret P f ds R :=
  ⟨h.enters, fun F w vs hF hs hv => h.run F w vs hF (hs.trans hl.1) (hl.2 F w _ _ hv)⟩

theorem run_enter {P : Program} {f : FuncId} (he : Enters P f) (w : World) (args : Array Value) : (callFunc f args).run P w = .ok (.enter f args) w := by
  obtain ⟨fn, h1, h2, h3⟩ := he
  simp only [callFunc, Sem.run_bind, run_program, Result.andThen_ok, h1, h2, h3]
  rfl

def calleeOf (s : St) (c : Call) : Option (FuncId × List V) :=
  match c.callee with
  | .value y => match s.opd y with
    | .fn f cs => some (f, cs)
    | .d (.fn f cs) => some (f, cs.map V.d)
    | _ => none
  | _ => none

theorem run_call {P : Program} {io : Keys} {F : Nat → Prop} {s : St} {w : World} {ev : Operand → Value} {o : Oper} {c : Call} (ho : ∀ y ∈ o.op.operands.toList, VR io F w (s.opd y) (ev y)) (hop : o.op = .call c) {f : FuncId} {caps : List V} (hc : calleeOf s c = some (f, caps)) (he : Enters P f) :
    ∃ vs : Array Value, (execOp ev o).run P w = .ok (.enter f vs) w ∧ vs.size = (c.args.toList.map s.opd ++ caps).length ∧ VRT io F w (fun i => vs[i]?) 0 (c.args.toList.map s.opd ++ caps) := by
  rw [hop] at ho
  simp only [Op.operands, Call.operands] at ho
  unfold calleeOf at hc
  split at hc
  · rename_i y hy
    rw [hy] at ho
    have hargs : ∀ (i : Nat) x, c.args.toList[i]? = some x → VR io F w (s.opd x) (ev x) := fun i x hi => ho x (by simp only [Array.toList_append, List.mem_append]; exact .inr (List.mem_of_getElem? hi))
    have hy1 := ho y (by simp)
    have key : ∀ (g : FuncId) (cs : List V) (arr : Array Value), ev y = .func (.func g) #[] arr → arr.size = cs.length → VRA io F w (fun i => arr[i]?) 0 cs → Enters P g →
        ∃ vs : Array Value, (execOp ev o).run P w = .ok (.enter g vs) w ∧ vs.size = (c.args.toList.map s.opd ++ cs).length ∧ VRT io F w (fun i => vs[i]?) 0 (c.args.toList.map s.opd ++ cs) := fun g cs arr e hl ha he => by
      refine ⟨c.args.map ev ++ arr, ?_, by simp [hl], ?_⟩
      · simp only [execOp, hop, resolve, hy, e, Deferred.ofValue, Sem.run_bind, Sem.run_pure, Result.andThen_ok, invoke]
        rw [run_enter he]
        simp
      · rw [VRT_iff]
        intro i x hx
        simp only [Nat.zero_add]
        by_cases hi : i < c.args.size
        · rw [List.getElem?_append_left (by simpa using hi)] at hx
          simp only [List.getElem?_map, Option.map_eq_some_iff] at hx
          obtain ⟨p, hp, rfl⟩ := hx
          refine ⟨ev p, ?_, hargs i p hp⟩
          rw [Array.getElem?_append_left (by simpa using hi), Array.getElem?_map]
          have : c.args[i]? = some p := by simpa using hp
          rw [this]; rfl
        · rw [List.getElem?_append_right (by simpa using hi)] at hx
          simp only [List.length_map, Array.length_toList] at hx
          obtain ⟨v, h1, _, h3⟩ := VRA_iff.1 ha _ x hx
          refine ⟨v, ?_, h3⟩
          rw [Array.getElem?_append_right (by simpa using hi)]
          simpa using h1
    split at hc
    · rename_i g cs hg
      simp only [Option.some.injEq, Prod.mk.injEq] at hc; obtain ⟨rfl, rfl⟩ := hc
      rw [hg] at hy1
      simp only [VR] at hy1
      obtain ⟨arr, e, hl, ha⟩ := hy1
      exact key g cs arr e hl ha he
    · rename_i g cs hg
      simp only [Option.some.injEq, Prod.mk.injEq] at hc; obtain ⟨rfl, rfl⟩ := hc
      rw [hg] at hy1
      simp only [VR, DR] at hy1
      obtain ⟨arr, e, hl, ha⟩ := hy1
      exact key g (cs.map V.d) arr e (by simpa using hl) (DRA.toV ha) he
    · cases hc
  · cases hc

/-! ## The call's own blocks, lent -/

mutual
def V.asD (m : Bool) (s : St) : V → Ev D
  | .d x => some (True, x)
  | .own k o n _ sz => match s.blk k with
    | some (.data _ sz' e z l) => match Nat.beq sz sz' with
      | true => match m, o with
        | true, 0 => some (n = l.length, .sl sz' e z l)
        | true, _ + 1 => none
        | false, o => some (True, .sl sz' e z (cut o n l))
      | false => none
    | _ => none
  | .ptr k o => match s.blk k with
    | some (.box _ cells) => match allD cells with | some ds => some (True, .ptr ds o) | none => none
    | _ => none
  | .eptr k sz i f => match s.blk k with
    | some (.data _ sz' e z l) => match Nat.beq sz sz' with
      | true => some (i < l.length, .ptr (e (l.getD i z)) f)
      | false => none
    | _ => none
  | .agg cs => match V.asDs m s cs with | some (C, ds) => some (C, .agg ds) | none => none
  | .tup cs => match V.asDs m s cs with | some (C, ds) => some (C, .tup ds) | none => none
  | .fn f cs => match V.asDs m s cs with | some (C, ds) => some (C, .fn f ds) | none => none
def V.asDs (m : Bool) (s : St) : List V → Ev (List D)
  | [] => some (True, [])
  | x :: xs => match V.asD m s x, V.asDs m s xs with
    | some (C, y), some (C', ys) => some (C ∧ C', y :: ys)
    | _, _ => none
end

def Lent (s : St) (io : Nat → Option Nat) (F : Nat → Prop) : Nat → Prop := fun b => F b ∨ ∃ k, s.blk k ≠ none ∧ io k = some b

section
variable {A : Nat → Prop} {n0 : Nat} {io : Nat → Option Nat} {F : Nat → Prop} {s : St} {w : World} (hb : ∀ k b, s.blk k = some b → BR A n0 (s.keys io) F w k b) {m : Bool}
include hb

theorem asD_own {k o n : Nat} {ty ty' : TypeId} {sz : Nat} {α : Type} {e : α → List D} {z : α} {l : List α} (hk : s.blk k = some (.data ty' sz e z l)) {v : Value} (h : VR (s.keys io) F w (.own k o n ty sz) v) : DR (Lent s io F) w (.sl sz e z (cut o n l)) v := by
  have hbr := hb k _ hk
  have ok : SubOk (Lent s io F) w (s.keys io) k (some (.data ty' sz e z l)) := by
    simp only [SubOk]
    refine ⟨ln_of hk, ?_⟩
    simp only [BR] at hbr
    rcases hbr with h | ⟨b, arr, h1, h2, h3, h4, h5⟩
    · exact .inl h
    · exact .inr ⟨b, arr, ty', (0, 0), h1, .inr ⟨k, by rw [hk]; simp, h1⟩, h4, LRA.mono (fun _ h => .inl h) (fun _ _ => rfl) h5⟩
  simpa only [subOwn, Nat.beq_refl] using subOwn_sound ok h

mutual
theorem asD_sound : ∀ (x : V) (v : Value) {C : Prop} {d : D}, V.asD m s x = some (C, d) → C → VR (s.keys io) F w x v → DR (Lent s io F) w d v
  | .d x, v, C, d, h, hC, hv => by
    simp only [V.asD, Option.some.injEq, Prod.mk.injEq] at h; obtain ⟨rfl, rfl⟩ := h
    simp only [VR] at hv
    exact DR.mono (fun _ h => .inl h) (fun _ _ => rfl) _ _ hv
  | .own k o n ty sz, v, C, d, h, hC, hv => by
    simp only [V.asD] at h
    split at h
    · rename_i ty' sz' α e z l hk
      split at h
      · rename_i hsz
        have hsz := Nat.eq_of_beq_eq_true hsz
        subst hsz
        have h0 := asD_own hb hk hv
        split at h
        · simp only [Option.some.injEq, Prod.mk.injEq] at h; obtain ⟨rfl, rfl⟩ := h
          subst hC
          simpa using h0
        · cases h
        · simp only [Option.some.injEq, Prod.mk.injEq] at h; obtain ⟨rfl, rfl⟩ := h
          exact h0
      · cases h
    · cases h
  | .ptr k o, v, C, d, h, hC, hv => by
    simp only [V.asD] at h
    split at h
    · rename_i ty cells hk
      split at h
      · rename_i ds hds
        simp only [Option.some.injEq, Prod.mk.injEq] at h; obtain ⟨rfl, rfl⟩ := h
        have hbr := hb k _ hk
        simp only [BR] at hbr
        obtain ⟨b, arr, h1, h2, h3, h4, h5⟩ := hbr
        simp only [VR] at hv
        obtain ⟨b', g1, rfl⟩ := hv
        rw [h1] at g1; cases g1
        simp only [DR]
        exact ⟨b, 0, arr, ty, (0, 0), by simp, .inr ⟨k, by rw [hk]; simp, h1⟩, h4, DRA.mono (fun _ h => .inl h) (fun _ _ => rfl) _ _ _ (VRA.ofD hds h5)⟩
      · cases h
    · cases h
  | .eptr k sz i f, v, C, d, h, hC, hv => by
    simp only [V.asD] at h
    split at h
    · rename_i ty' sz' α e z l hk
      split at h
      · rename_i hsz
        have hsz := Nat.eq_of_beq_eq_true hsz
        subst hsz
        simp only [Option.some.injEq, Prod.mk.injEq] at h; obtain ⟨rfl, rfl⟩ := h
        have hbr := hb k _ hk
        simp only [BR] at hbr
        rcases hbr with ⟨_, rfl⟩ | ⟨b, arr, h1, h2, h3, h4, h5⟩
        · simp at hC
        · simp only [VR] at hv
          obtain ⟨b', g1, rfl⟩ := hv
          rw [h1] at g1; cases g1
          obtain ⟨q1, q2⟩ := h5 i (l.getD i z) (by rw [List.getElem?_eq_getElem hC, List.getD_eq_getElem?_getD, List.getElem?_eq_getElem hC]; rfl)
          rw [Nat.zero_add] at q2
          simp only [DR]
          exact ⟨b, _, arr, ty', (0, 0), rfl, .inr ⟨k, by rw [hk]; simp, h1⟩, h4, DRA.mono (fun _ h => .inl h) (fun _ _ => rfl) _ _ _ q2⟩
      · cases h
    · cases h
  | .agg cs, v, C, d, h, hC, hv => by
    simp only [V.asD] at h
    split at h
    · rename_i C' ds hds
      simp only [Option.some.injEq, Prod.mk.injEq] at h; obtain ⟨rfl, rfl⟩ := h
      simp only [VR] at hv
      obtain ⟨arr, e, hl, ha⟩ := hv
      obtain ⟨q1, q2⟩ := asDs_sound cs hds hC _ _ ha
      simp only [DR]; exact ⟨arr, e, hl.trans q1, q2⟩
    · cases h
  | .tup cs, v, C, d, h, hC, hv => by
    simp only [V.asD] at h
    split at h
    · rename_i C' ds hds
      simp only [Option.some.injEq, Prod.mk.injEq] at h; obtain ⟨rfl, rfl⟩ := h
      simp only [VR] at hv
      obtain ⟨arr, e, hl, ha⟩ := hv
      obtain ⟨q1, q2⟩ := asTs_sound cs hds hC _ _ ha
      simp only [DR]; exact ⟨arr, e, hl.trans q1, q2⟩
    · cases h
  | .fn f cs, v, C, d, h, hC, hv => by
    simp only [V.asD] at h
    split at h
    · rename_i C' ds hds
      simp only [Option.some.injEq, Prod.mk.injEq] at h; obtain ⟨rfl, rfl⟩ := h
      simp only [VR] at hv
      obtain ⟨arr, e, hl, ha⟩ := hv
      obtain ⟨q1, q2⟩ := asDs_sound cs hds hC _ _ ha
      simp only [DR]; exact ⟨arr, e, hl.trans q1, q2⟩
    · cases h
theorem asDs_sound : ∀ (xs : List V) {C : Prop} {ds : List D}, V.asDs m s xs = some (C, ds) → C → ∀ (g : Nat → Option Value) (off : Nat), VRA (s.keys io) F w g off xs → xs.length = ds.length ∧ DRA (Lent s io F) w g off ds
  | [], C, ds, h, hC, g, off, ha => by
    simp only [V.asDs, Option.some.injEq, Prod.mk.injEq] at h; obtain ⟨rfl, rfl⟩ := h
    exact ⟨rfl, by simp only [DRA]⟩
  | x :: xs, C, ds, h, hC, g, off, ha => by
    simp only [V.asDs] at h
    split at h
    · rename_i C1 y C2 ys h1 h2
      simp only [Option.some.injEq, Prod.mk.injEq] at h; obtain ⟨rfl, rfl⟩ := h
      simp only [VRA] at ha
      obtain ⟨⟨v, e, ho, hv⟩, hr⟩ := ha
      obtain ⟨q1, q2⟩ := asDs_sound xs h2 hC.2 g _ hr
      refine ⟨by simp [q1], ?_⟩
      simp only [DRA]
      exact ⟨⟨v, e, ho, asD_sound x v h1 hC.1 hv⟩, q2⟩
    · cases h
theorem asTs_sound : ∀ (xs : List V) {C : Prop} {ds : List D}, V.asDs m s xs = some (C, ds) → C → ∀ (g : Nat → Option Value) (off : Nat), VRT (s.keys io) F w g off xs → xs.length = ds.length ∧ DRT (Lent s io F) w g off ds
  | [], C, ds, h, hC, g, off, ha => by
    simp only [V.asDs, Option.some.injEq, Prod.mk.injEq] at h; obtain ⟨rfl, rfl⟩ := h
    exact ⟨rfl, by simp only [DRT]⟩
  | x :: xs, C, ds, h, hC, g, off, ha => by
    simp only [V.asDs] at h
    split at h
    · rename_i C1 y C2 ys h1 h2
      simp only [Option.some.injEq, Prod.mk.injEq] at h; obtain ⟨rfl, rfl⟩ := h
      simp only [VRT] at ha
      obtain ⟨⟨v, e, hv⟩, hr⟩ := ha
      obtain ⟨q1, q2⟩ := asTs_sound xs h2 hC.2 g _ hr
      refine ⟨by simp [q1], ?_⟩
      simp only [DRT]
      exact ⟨⟨v, e, asD_sound x v h1 hC.1 hv⟩, q2⟩
    · cases h
end
end

mutual
def D.noRef : D → Bool
  | .bool _ => true
  | .int _ _ => true
  | .str _ => true
  | .agg cs => D.noRefs cs
  | .tup cs => D.noRefs cs
  | _ => false
def D.noRefs : List D → Bool
  | [] => true
  | x :: xs => D.noRef x && D.noRefs xs
end
section
variable {F F' : Nat → Prop} {w w' : World}
mutual
theorem DR.noRef : ∀ (x : D) (v : Value), x.noRef = true → DR F w x v → DR F' w' x v
  | .bool _, _, _, h => by simp only [DR] at h ⊢; exact h
  | .int _ _, _, _, h => by simp only [DR] at h ⊢; exact h
  | .str _, _, _, h => by simp only [DR] at h ⊢; exact h
  | .agg cs, _, e, h => by simp only [DR, D.noRef] at h e ⊢; obtain ⟨a, e', l, h⟩ := h; exact ⟨a, e', l, DRA.noRef cs e _ _ h⟩
  | .tup cs, _, e, h => by simp only [DR, D.noRef] at h e ⊢; obtain ⟨a, e', l, h⟩ := h; exact ⟨a, e', l, DRT.noRef cs e _ _ h⟩
  | .undef, _, e, _ => by cases e
  | .sl _ _ _ _, _, e, _ => by cases e
  | .nils, _, e, _ => by cases e
  | .ptr _ _, _, e, _ => by cases e
  | .fn _ _, _, e, _ => by cases e
  | .ifc _ _, _, e, _ => by cases e
  | .raw _, _, e, _ => by cases e
  | .full _, _, e, _ => by cases e
theorem DRA.noRef : ∀ (xs : List D), D.noRefs xs = true → ∀ (g : Nat → Option Value) (off : Nat), DRA F w g off xs → DRA F' w' g off xs
  | [], _, _, _, _ => by simp only [DRA]
  | x :: xs, e, g, off, h => by
      simp only [D.noRefs, Bool.and_eq_true] at e
      simp only [DRA] at h ⊢
      obtain ⟨⟨v, e', h0, h1⟩, h2⟩ := h
      exact ⟨⟨v, e', h0, DR.noRef x v e.1 h1⟩, DRA.noRef xs e.2 _ _ h2⟩
theorem DRT.noRef : ∀ (xs : List D), D.noRefs xs = true → ∀ (g : Nat → Option Value) (off : Nat), DRT F w g off xs → DRT F' w' g off xs
  | [], _, _, _, _ => by simp only [DRT]
  | x :: xs, e, g, off, h => by
      simp only [D.noRefs, Bool.and_eq_true] at e
      simp only [DRT] at h ⊢
      obtain ⟨⟨v, e', h1⟩, h2⟩ := h
      exact ⟨⟨v, e', DR.noRef x v e.1 h1⟩, DRT.noRef xs e.2 _ _ h2⟩
end
end

section
variable {X : Ctx} {all : Array Oper} {s : St} {o : Oper} {c : Call} {f : FuncId} {caps : List V} {ds ds' : List D}

theorem m_callR (hg : gd all s o = some true) (hop : o.op = .call c) (hc : calleeOf s c = some (f, caps)) (ha : allD (c.args.toList.map s.opd ++ caps) = some ds) (le : LeT ds ds') {r : D} (hr : Ret X.P f ds' (· = r)) : M1 X all s o (.d r) := fun io F a w ht hb hF K Q hK => by
  obtain ⟨vs, h1, h2, h3⟩ := run_call (P := X.P) (operands_of ht) hop hc hr.enters
  unfold opWp
  rw [if_pos (gd_sound ht hg)]; left
  unfold Oper.wp; rw [h1]
  simp only [Oper.upon]
  have hm := allD_map ha
  refine ((hr.args le).run F w vs hF (by rw [h2, hm]; simp) (VRT.ofD ha h3)).mono fun e w' ⟨v, r', F', he, g1, g2, g3, g4, g5⟩ => ?_
  subst he g1
  exact hK F' w' v g2 g3 g4 (by simpa only [VR] using g5)

def ownKey1 : List V → Option Nat
  | [] => none
  | x :: r => match x with
    | .own k _ _ _ _ => some k
    | .ptr k _ => some k
    | _ => ownKey1 r
def ownKey2 : List V → Option Nat
  | [] => none
  | x :: r => match x with
    | .own k _ _ _ _ => some k
    | .ptr k _ => some k
    | .fn _ cs => match ownKey1 cs with | some k => some k | none => ownKey2 r
    | .agg cs => match ownKey1 cs with | some k => some k | none => ownKey2 r
    | _ => ownKey2 r
def ownKey : List V → Option Nat
  | [] => none
  | x :: r => match x with
    | .own k _ _ _ _ => some k
    | .ptr k _ => some k
    | .fn _ cs => match ownKey2 cs with | some k => some k | none => ownKey r
    | .agg cs => match ownKey2 cs with | some k => some k | none => ownKey r
    | _ => ownKey r

theorem e_frz {s' : St} (k : Nat) {b : Blk} (hk : s.blk k = some b) (h : E1 X all (s.sub k (some b)) o s') : E1 X all s o s' := fun io F a w hs K Q hK => by
  obtain ⟨F', hs', _⟩ := hs.freeze k hk
  exact h io F' a w hs' K Q hK
end

/-! ## Lists of operations, code -/

def lift (X : Ctx) (Q : Exit → St → Prop) : Exit → Act → World → Prop := fun e a w => ∃ s io F, Q e s ∧ SR X io F s a w
def awpL (X : Ctx) (all : Array Oper) (l : List Oper) (Q : Exit → St → Prop) (s : St) : Prop := ∀ io F a w, SR X io F s a w → wpList X.P all (lift X Q) l a w
def awp (X : Ctx) (c : Code) (Q : Exit → St → Prop) (s : St) : Prop := ∀ io F a w, SR X io F s a w → c.wp X.P (lift X Q) a w
def andThen (K : St → Prop) (Q : Exit → St → Prop) : Exit → St → Prop
  | .normal, s => K s
  | e, s => Q e s
def inBlock (id : Nat) (Q : Exit → St → Prop) : Exit → St → Prop
  | .exit id', s => match Nat.beq id' id with | true => Q .normal s | false => Q (.exit id') s
  | e, s => Q e s

section
variable {X : Ctx} {all : Array Oper} {Q : Exit → St → Prop} {s : St} {o : Oper} {rest : List Oper}

theorem awpL_nil (h : Q .normal s) : awpL X all [] Q s := fun io F a w hs => ⟨s, io, F, h, hs⟩
theorem wpList_cons {P : Program} {Q : Exit → Act → World → Prop} {a : Act} {w : World} (h : opWp P all o a w (wpList P all Q rest) Q) : wpList P all Q (o :: rest) a w := h
theorem awpL_step {s' : St} (h : E1 X all s o s') (k : awpL X all rest Q s') : awpL X all (o :: rest) Q s :=
  fun _ _ _ _ hs => wpList_cons (h _ _ _ _ hs _ _ fun _ _ _ _ hs' => k _ _ _ _ hs')
theorem awp_frz {c : Code} (k : Nat) {b : Blk} (hk : s.blk k = some b) (h : awp X c Q (s.sub k (some b))) : awp X c Q s := fun io F a w hs => by
  obtain ⟨F', hs', _⟩ := hs.freeze k hk
  exact h io F' a w hs'

theorem awp_skip (h : Q .normal s) : awp X .skip Q s := fun io F _ _ hs => wp_skip ⟨s, io, F, h, hs⟩
theorem awp_ret (h : Q .ret s) : awp X .ret Q s := fun io F _ _ hs => wp_ret ⟨s, io, F, h, hs⟩
theorem awp_exit {id : Nat} (h : Q (.exit id) s) : awp X (.exit id) Q s := fun io F _ _ hs => wp_exit ⟨s, io, F, h, hs⟩

theorem awp_seq {x y : Code} (h : awp X x (andThen (awp X y Q) Q) s) : awp X (.seq x y) Q s := fun io F a w hs =>
  wp_seq (wp_mono (h io F a w hs) fun e a w ⟨s', io', F', hq, hs'⟩ => by
    cases e <;> first | exact hq _ _ _ _ hs' | exact ⟨s', io', F', hq, hs'⟩)

theorem awp_region {id : Nat} {l : List Oper} (h : awpL X l.toArray l Q s) : awp X (.region id l.toArray false) Q s := fun io F a w hs => wp_region_lit (h io F a w hs)

theorem awp_cond {c : Operand} {x y : Code} {t : Bool} (hc : s.opd c = .d (.bool t)) (h1 : t = true → awp X x Q s) (h2 : t = false → awp X y Q s) : awp X (.cond c x y) Q s := fun io F a w hs => by
  have := hs.opd c
  rw [hc] at this
  simp only [VR, DR] at this
  exact wp_cond_split this (fun e => h1 e _ _ _ _ hs) (fun e => h2 e _ _ _ _ hs)
theorem awp_condT {c : Operand} {x y : Code} (hc : s.opd c = .d (.bool true)) (h : awp X x Q s) : awp X (.cond c x y) Q s := awp_cond hc (fun _ => h) (fun e => by cases e)
theorem awp_condF {c : Operand} {x y : Code} (hc : s.opd c = .d (.bool false)) (h : awp X y Q s) : awp X (.cond c x y) Q s := awp_cond hc (fun e => by cases e) (fun _ => h)
theorem awp_condD {c : Operand} {x y : Code} {p : Prop} [Decidable p] (hc : s.opd c = .d (.bool (decide p))) (h1 : p → awp X x Q s) (h2 : ¬ p → awp X y Q s) : awp X (.cond c x y) Q s := awp_cond hc (fun e => h1 (of_decide_eq_true e)) (fun e => h2 (of_decide_eq_false e))
theorem awp_condN {c : Operand} {x y : Code} {p : Prop} [Decidable p] (hc : s.opd c = .d (.bool (!decide p))) (h1 : ¬ p → awp X x Q s) (h2 : p → awp X y Q s) : awp X (.cond c x y) Q s := awp_cond hc (fun e => h1 (of_decide_eq_false (by simpa using e))) (fun e => h2 (of_decide_eq_true (by simpa using e)))

theorem awp_block {id : Nat} {c : Code} (h : awp X c (inBlock id Q) s) : awp X (.block id c) Q s := fun io F a w hs =>
  wp_block (wp_mono (h io F a w hs) fun e a w ⟨s', io', F', hq, hs'⟩ => by
    cases e with
    | exit n =>
      simp only [inBlock, Exit.inBlock] at hq ⊢
      split <;> rename_i h
      · subst h; simp only [Nat.beq_refl] at hq; exact ⟨s', io', F', hq, hs'⟩
      · have : Nat.beq n id = false := by
          cases hb : Nat.beq n id with
          | false => rfl
          | true => exact absurd (Nat.eq_of_beq_eq_true hb) h
        rw [this] at hq; exact ⟨s', io', F', hq, hs'⟩
    | normal => exact ⟨s', io', F', hq, hs'⟩
    | goto l => exact ⟨s', io', F', hq, hs'⟩
    | ret => exact ⟨s', io', F', hq, hs'⟩
    | panic c => exact ⟨s', io', F', hq, hs'⟩
    | outgrown => exact ⟨s', io', F', hq, hs'⟩)

theorem awp_mono {c : Code} {Q' : Exit → St → Prop} (hq : ∀ e s, Q e s → Q' e s) (h : awp X c Q s) : awp X c Q' s := fun io F a w hs =>
  wp_mono (h io F a w hs) fun e a w ⟨s', io', F', h1, h2⟩ => ⟨s', io', F', hq _ _ h1, h2⟩

theorem awpL_guard {d : Tmp} {b : Bool} (hd : s.tmps d = .d (.bool b)) (h1 : b = true → awpL X all rest Q (s.put (some d) (.d (.bool true)))) (h2 : b = false → awpL X all rest Q (s.put (some d) (.d (.bool false)))) : awpL X all rest Q s := fun io F a w hs => by
  have key : ∀ t, b = t → SR X io F (s.put (some d) (.d (.bool t))) a w := fun t e => by
    subst e
    refine ⟨hs.kept, fun u => ?_, hs.nt, hs.df, hs.bl, hs.inj, hs.ff, hs.f0, hs.st⟩
    simp only [St.put]
    cases hb : Nat.beq u d with
    | true => have := Nat.eq_of_beq_eq_true hb; subst this; simp only [cond_true]; rw [← hd]; exact hs.tm u
    | false => simp only [cond_false]; exact hs.tm u
  cases b with
  | true => exact h1 rfl _ _ _ _ (key true rfl)
  | false => exact h2 rfl _ _ _ _ (key false rfl)
end
end Go.Vw
