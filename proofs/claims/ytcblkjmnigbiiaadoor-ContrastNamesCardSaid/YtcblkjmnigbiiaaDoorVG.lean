/-
  Growing memory; blocks of the call's own that are made, written and given away. Conditions: the table of types is the program's.
-/
import Derived.Test.YtcblkjmnigbiiaaDoorVF
set_option linter.unusedSimpArgs false
set_option linter.unusedSectionVars false
namespace Go.Vw
open Go.RowKit

theorem shapes_of_below {w w' : World} (hb : Below w.heap.size w w') : Shapes w w' := fun b arr ty fz h => by
  have : b < w.heap.size := (Array.getElem?_eq_some_iff.1 h).1
  exact ⟨arr, (hb.block b this).trans h, rfl⟩

theorem LRA.mono {F F' : Nat → Prop} {w w' : World} (hF : ∀ b, F b → F' b) (hs : Stays F w w') {g : Nat → Option Value} {off sz : Nat} {α : Type} {e : α → List D} {l : List α} (h : LRA F w g off sz e l) : LRA F' w' g off sz e l := fun i a hi => ⟨(h i a hi).1, DRA.mono hF hs _ _ _ (h i a hi).2⟩

section
variable {io io' : Keys} {F F' : Nat → Prop} {w w' : World} (hi : ∀ k, io'.io k = io.io k ∧ io.ln k ≤ io'.ln k) (hF : ∀ b, F b → F' b) (hs : Stays F w w') (hsh : Shapes w w')
include hi hF hs hsh
theorem DfR.mono : ∀ (l : List (FuncId × List V)) (ds : List Deferred), DfR io F w l ds → DfR io' F' w' l ds
  | [], _, h => h
  | (_, _) :: r, _, ⟨arr, rest, e, hl, h, h'⟩ => ⟨arr, rest, e, hl, VRA.mono hi hF hs hsh _ _ _ h, DfR.mono r _ h'⟩
end

theorem HRA.mono {io io' : Keys} {F F' : Nat → Prop} {w w' : World} (hi : ∀ k, io'.io k = io.io k ∧ io.ln k ≤ io'.ln k) (hF : ∀ b, F b → F' b) (hs : Stays F w w') (hsh : Shapes w w') {g : Nat → Option Value} {sz : Nat} {α : Type} {e : α → List D} {v : V} {i : Nat} {l : List α} (h : HRA io F w g sz e i v l) : HRA io' F' w' g sz e i v l := by
  obtain ⟨h0, h1, u, h2, h2', h3⟩ := h
  exact ⟨fun j a hj ha => ⟨(h0 j a hj ha).1, DRA.mono hF hs _ _ _ (h0 j a hj ha).2⟩, h1, u, h2, h2', VR.mono hi hF hs hsh _ _ h3⟩
/-- A block's relation, where its row stays. -/
theorem BR.mono {A : Nat → Prop} {n0 : Nat} {io io' : Keys} {F F' : Nat → Prop} {w w' : World} (hi : ∀ k, io'.io k = io.io k ∧ io.ln k ≤ io'.ln k) (hF : ∀ b, F b → F' b) (hs : Stays F w w') (hsh : Shapes w w') {k : Nat} (hk : ∀ b o, io.io k = some b → w.heap[b]? = some o → ¬ F b → w'.heap[b]? = some o ∧ ¬ F' b) : ∀ {b : Blk}, BR A n0 io F w k b → BR A n0 io' F' w' k b
  | .data ty sz e z l, h => by
    simp only [BR] at h ⊢
    rw [(hi _).1]
    rcases h with h | ⟨b, arr, h1, h2, h3, h4, h5⟩
    · exact .inl h
    · obtain ⟨g1, g2⟩ := hk b _ h1 h4 h2
      exact .inr ⟨b, arr, h1, g2, h3, g1, LRA.mono hF hs h5⟩
  | .box ty cells, h => by
    simp only [BR] at h ⊢
    rw [(hi _).1]
    obtain ⟨b, arr, h1, h2, h3, h4, h5⟩ := h
    obtain ⟨g1, g2⟩ := hk b _ h1 h4 h2
    exact ⟨b, arr, h1, g2, h3, g1, VRA.mono hi hF hs hsh _ _ _ h5⟩
  | .hole ty sz e z l i v, h => by
    simp only [BR] at h ⊢
    rw [(hi _).1]
    obtain ⟨b, arr, h1, h2, h3, h4, h5⟩ := h
    obtain ⟨g1, g2⟩ := hk b _ h1 h4 h2
    exact ⟨b, arr, h1, g2, h3, g1, HRA.mono hi hF hs hsh h5⟩

theorem Kept.below {A : Nat → Prop} {w0 w w' : World} (h : Kept A w0 w) (hb : Below w.heap.size w w') : Kept A w0 w' :=
  ⟨hb.os.trans h.os, hb.tape.trans h.tape, hb.output.trans h.output, Nat.le_trans h.size hb.size, fun b h1 h2 => (hb.block b (Nat.lt_of_lt_of_le h1 h.size)).trans (h.block b h1 h2), h.shape.trans (shapes_of_below hb)⟩

theorem SR.grow {X : Ctx} {io : Nat → Option Nat} {F F' : Nat → Prop} {s : St} {a : Act} {w w' : World} (hs : SR X io F s a w) (hb : Below w.heap.size w w') (hF : ∀ b, F b → F' b) (hN : ∀ b, F' b → F b ∨ (w.heap.size ≤ b ∧ b < w'.heap.size)) : SR X io F' s a w' := by
  have hst : Stays F w w' := fun b h => hb.block b (hs.ff b h).1
  have hsh := shapes_of_below hb
  have hne : ∀ b o, w.heap[b]? = some o → ¬ F b → ¬ F' b := fun b o h hn hf => by
    rcases hN b hf with h' | h'
    · exact hn h'
    · have := lt_of_heap h; omega
  refine ⟨hs.kept.below hb, fun t => VR.mono (fun _ => ⟨rfl, Nat.le_refl _⟩) hF hst hsh _ _ (hs.tm t), hs.nt, DfR.mono (fun _ => ⟨rfl, Nat.le_refl _⟩) hF hst hsh _ _ hs.df, fun k b hk => BR.mono (fun _ => ⟨rfl, Nat.le_refl _⟩) hF hst hsh (fun b o _ h1 h2 => ⟨(hb.block b (lt_of_heap h1)).trans h1, hne b o h1 h2⟩) (hs.bl k b hk), hs.inj, fun b h => ?_, fun b h => hF b (hs.f0 b h), hs.st⟩
  rcases hN b h with h' | h'
  · exact ⟨Nat.lt_of_lt_of_le (hs.ff b h').1 hb.size, (hs.ff b h').2⟩
  · exact ⟨h'.2, .inr (.inl (Nat.le_trans hs.kept.size h'.1))⟩

theorem below_alloc (w : World) (o : Obj) : Below w.heap.size w (w.alloc o) := (Below.refl _ _).alloc (Nat.le_refl _) _
theorem below_drew (w : World) : Below w.heap.size w w.drew := (Below.refl _ _).drew

theorem SR.drew {X : Ctx} {io : Nat → Option Nat} {F : Nat → Prop} {s : St} {a : Act} {w : World} (hs : SR X io F s a w) : SR X io F s a w.drew :=
  hs.grow (below_drew w) (fun _ h => h) (fun _ h => .inl h)

/-! ## A key is given up, or its block given away -/

/-- What a value becomes where key k is given up: 'b = none', or its block is written no more. -/
def subOwn (b : Option Blk) (o n : Nat) (sz : Nat) : D :=
  match b with
  | some (.data _ sz' e z l) => match Nat.beq sz sz' with
    | true => .sl sz' e z (cut o n l)
    | false => .undef
  | _ => .undef
def subPtr (b : Option Blk) (o : Nat) : D :=
  match b with
  | some (.box _ cells) => match allD cells with | some ds => .ptr ds o | none => .undef
  | _ => .undef

mutual
def V.sub (k : Nat) (b : Option Blk) : V → V
  | .own k' o n ty sz => bif Nat.beq k' k then .d (subOwn b o n sz) else .own k' o n ty sz
  | .ptr k' o => bif Nat.beq k' k then .d (subPtr b o) else .ptr k' o
  | .eptr k' sz i f => bif Nat.beq k' k then .d .undef else .eptr k' sz i f
  | .agg cs => .agg (V.subL k b cs)
  | .tup cs => .tup (V.subL k b cs)
  | .fn f cs => .fn f (V.subL k b cs)
  | .d x => .d x
def V.subL (k : Nat) (b : Option Blk) : List V → List V
  | [] => []
  | x :: xs => V.sub k b x :: V.subL k b xs
end

theorem beq_ne {a b : Nat} (h : Nat.beq a b = false) : a ≠ b := fun e => by subst e; simp at h

theorem V.subL_eq (k : Nat) (b : Option Blk) : ∀ l : List V, V.subL k b l = l.map (V.sub k b)
  | [] => rfl
  | x :: xs => by simp [V.subL, V.subL_eq k b xs]

/-- What is known of the block that is given up. -/
def SubOk (F : Nat → Prop) (w : World) (io : Keys) (k : Nat) : Option Blk → Prop
  | none => True
  | some (.data _ sz e _ l) => io.ln k = l.length ∧ ((io.io k = none ∧ l = []) ∨ ∃ b arr ty fz, io.io k = some b ∧ F b ∧ w.heap[b]? = some (.cells arr ty fz) ∧ LRA F w (fun j => arr[j]?) 0 sz e l)
  | some (.box _ cells) => ∀ ds, allD cells = some ds → ∃ b arr ty fz, io.io k = some b ∧ F b ∧ w.heap[b]? = some (.cells arr ty fz) ∧ DRA F w (fun j => arr[j]?) 0 ds
  | some (.hole ..) => True

theorem subNone {F : Nat → Prop} {w : World} {io : Keys} {k : Nat} : SubOk F w io k none := trivial
theorem subOwn_sound {F : Nat → Prop} {w : World} {io : Keys} {k : Nat} {ob : Option Blk} (hk : SubOk F w io k ob) {o n : Nat} {ty : TypeId} {sz : Nat} {F0 : Nat → Prop} {v : Value} (h : VR io F0 w (.own k o n ty sz) v) : DR F w (subOwn ob o n sz) v := by
  unfold subOwn
  split
  · rename_i ty' sz' α e z l
    split
    · rename_i hsz
      have hsz := Nat.eq_of_beq_eq_true hsz
      subst hsz
      simp only [SubOk] at hk
      simp only [VR] at h
      simp only [DR]
      obtain ⟨hln, hk⟩ := hk
      rcases h with ⟨h0, rfl, rfl, rfl⟩ | ⟨b, cap, arr, h1, rfl, h3, h4, h5, h6, h7⟩
      · rcases hk with ⟨_, rfl⟩ | ⟨b, _, _, _, h1, _⟩
        · exact .inl (by rw [cut_eq]; simp)
        · rw [h0] at h1; cases h1
      · rcases hk with ⟨h0, _⟩ | ⟨b', arr', ty'', fz, g1, g2, g3, g4⟩
        · rw [h0] at h1; cases h1
        · rw [h1] at g1; cases g1
          have hz : (cut o n l).length = n := by rw [cut_eq]; simp; omega
          refine .inr ⟨b, o * sz, cap, arr', ty'', fz, by rw [hz], by rw [hz]; exact h3, g2, g3, fun i a hi => ?_⟩
          rw [cut_eq, List.getElem?_take] at hi
          split at hi
          · rw [List.getElem?_drop] at hi
            have := g4 _ a hi
            refine ⟨this.1, ?_⟩
            have h2 := this.2
            rwa [Nat.zero_add, Nat.add_mul] at h2
          · cases hi
    · simp only [DR]
  · simp only [DR]

theorem subPtr_sound {F : Nat → Prop} {w : World} {io : Keys} {k : Nat} {ob : Option Blk} (hk : SubOk F w io k ob) {o : Nat} {F0 : Nat → Prop} {v : Value} (h : VR io F0 w (.ptr k o) v) : DR F w (subPtr ob o) v := by
  unfold subPtr
  split
  · rename_i ty cells
    split
    · rename_i ds hds
      simp only [SubOk] at hk
      obtain ⟨b, arr, ty, fz, g1, g2, g3, g4⟩ := hk ds hds
      simp only [VR] at h
      obtain ⟨b', h1, rfl⟩ := h
      rw [g1] at h1; cases h1
      simp only [DR]
      exact ⟨b, 0, arr, ty, fz, by simp, g2, g3, g4⟩
    · simp only [DR]
  · simp only [DR]

section
variable {io io' : Keys} {F F' : Nat → Prop} {w : World} {k : Nat} {ob : Option Blk} (hi : ∀ j, j ≠ k → io'.io j = io.io j ∧ io.ln j ≤ io'.ln j) (hF : ∀ b, F b → F' b) (hk : SubOk F' w io k ob)
include hi hF hk
mutual
theorem VR.sub : ∀ (x : V) (v : Value), VR io F w x v → VR io' F' w (x.sub k ob) v
  | .d x, v, h => by simp only [V.sub, VR] at h ⊢; exact DR.mono hF (fun _ _ => rfl) _ _ h
  | .own k' o n ty sz, v, h => by
      simp only [V.sub]
      cases hb : Nat.beq k' k with
      | true =>
        have := Nat.eq_of_beq_eq_true hb
        subst this
        simp only [cond_true, VR]
        exact subOwn_sound hk h
      | false =>
        obtain ⟨h1, h2⟩ := hi k' (beq_ne hb)
        simp only [cond_false, VR] at h ⊢
        rw [h1]
        rcases h with h | ⟨b, cap, arr, g1, g2, g3, g4, g5, g6, g7⟩
        · exact .inl h
        · exact .inr ⟨b, cap, arr, g1, g2, g3, g4, g5, g6, Nat.le_trans g7 h2⟩
  | .ptr k' o, v, h => by
      simp only [V.sub]
      cases hb : Nat.beq k' k with
      | true =>
        have := Nat.eq_of_beq_eq_true hb
        subst this
        simp only [cond_true, VR]
        exact subPtr_sound hk h
      | false =>
        obtain ⟨h1, h2⟩ := hi k' (beq_ne hb)
        simp only [cond_false, VR] at h ⊢
        rw [h1]; exact h
  | .eptr k' sz i f, v, h => by
      simp only [V.sub]
      cases hb : Nat.beq k' k with
      | true => simp only [cond_true, VR, DR]
      | false =>
        obtain ⟨h1, h2⟩ := hi k' (beq_ne hb)
        simp only [cond_false, VR] at h ⊢
        rw [h1]; exact h
  | .agg cs, v, h => by simp only [V.sub, VR] at h ⊢; obtain ⟨a, e, l, h⟩ := h; exact ⟨a, e, by rw [V.subL_eq]; simpa using l, VRA.sub cs _ _ h⟩
  | .tup cs, v, h => by simp only [V.sub, VR] at h ⊢; obtain ⟨a, e, l, h⟩ := h; exact ⟨a, e, by rw [V.subL_eq]; simpa using l, VRT.sub cs _ _ h⟩
  | .fn f cs, v, h => by simp only [V.sub, VR] at h ⊢; obtain ⟨a, e, l, h⟩ := h; exact ⟨a, e, by rw [V.subL_eq]; simpa using l, VRA.sub cs _ _ h⟩
theorem VRA.sub : ∀ (xs : List V) (g : Nat → Option Value) (off : Nat), VRA io F w g off xs → VRA io' F' w g off (V.subL k ob xs)
  | [], _, _, _ => by simp only [V.subL, VRA]
  | x :: xs, g, off, h => by
      simp only [V.subL, VRA] at h ⊢
      obtain ⟨⟨v, e, h0, h1⟩, h2⟩ := h
      exact ⟨⟨v, e, h0, VR.sub x v h1⟩, VRA.sub xs _ _ h2⟩
theorem VRT.sub : ∀ (xs : List V) (g : Nat → Option Value) (off : Nat), VRT io F w g off xs → VRT io' F' w g off (V.subL k ob xs)
  | [], _, _, _ => by simp only [V.subL, VRT]
  | x :: xs, g, off, h => by
      simp only [V.subL, VRT] at h ⊢
      obtain ⟨⟨v, e, h1⟩, h2⟩ := h
      exact ⟨⟨v, e, VR.sub x v h1⟩, VRT.sub xs _ _ h2⟩
end
end

def Blk.ln : Blk → Nat
  | .data _ _ _ _ l => l.length
  | .box _ _ => 0
  | .hole _ _ _ _ l _ _ => l.length
theorem ln_of {s : St} {k : Nat} {b : Blk} (h : s.blk k = some b) : s.ln k = b.ln := by unfold St.ln; rw [h]; cases b <;> rfl
def Blk.sub (k : Nat) (ob : Option Blk) : Blk → Blk
  | .data ty sz e z l => .data ty sz e z l
  | .box ty cs => .box ty (V.subL k ob cs)
  | .hole ty sz e z l i v => .hole ty sz e z l i (V.sub k ob v)
def dfSub (k : Nat) (ob : Option Blk) : List (FuncId × List V) → List (FuncId × List V)
  | [] => []
  | (f, cs) :: r => (f, V.subL k ob cs) :: dfSub k ob r
/-- The state where key k is given up (ob = none), or its block given away. -/
def St.sub (s : St) (k : Nat) (ob : Option Blk) : St :=
  { tmps := fun t => (s.tmps t).sub k ob, blk := fun j => bif Nat.beq j k then none else match s.blk j with | some b => some (b.sub k ob) | none => none, dfs := dfSub k ob s.dfs }

def updio (io : Nat → Option Nat) (k : Nat) (b : Option Nat) : Nat → Option Nat := fun j => bif Nat.beq j k then b else io j
theorem updio_same (io : Nat → Option Nat) (k : Nat) (b : Option Nat) : updio io k b k = b := by simp [updio]
theorem updio_ne (io : Nat → Option Nat) {k j : Nat} (b : Option Nat) (h : j ≠ k) : updio io k b j = io j := by
  unfold updio
  cases hb : Nat.beq j k with
  | true => exact absurd (Nat.eq_of_beq_eq_true hb) h
  | false => rfl

theorem sub_blk {s : St} {k j : Nat} {ob : Option Blk} {b : Blk} (h : (s.sub k ob).blk j = some b) : j ≠ k ∧ ∃ b0, s.blk j = some b0 ∧ b = b0.sub k ob := by
  simp only [St.sub] at h
  cases hb : Nat.beq j k with
  | true => rw [hb] at h; simp at h
  | false =>
    rw [hb] at h
    simp only [cond_false] at h
    split at h
    · rename_i b0 h0
      simp only [Option.some.injEq] at h
      exact ⟨beq_ne hb, b0, h0, h.symm⟩
    · cases h
theorem sub_ln {s : St} {k j : Nat} {ob : Option Blk} (h : j ≠ k) : (s.sub k ob).ln j = s.ln j := by
  unfold St.ln St.sub
  cases hb : Nat.beq j k with
  | true => exact absurd (Nat.eq_of_beq_eq_true hb) h
  | false =>
    simp only [hb, cond_false]
    cases s.blk j with
    | none => rfl
    | some b => cases b <;> rfl

theorem dfSub_sound {io io' : Keys} {F F' : Nat → Prop} {w : World} {k : Nat} {ob : Option Blk} (hi : ∀ j, j ≠ k → io'.io j = io.io j ∧ io.ln j ≤ io'.ln j) (hF : ∀ b, F b → F' b) (hk : SubOk F' w io k ob) : ∀ (l : List (FuncId × List V)) (ds : List Deferred), DfR io F w l ds → DfR io' F' w (dfSub k ob l) ds
  | [], _, h => h
  | (_, _) :: r, _, ⟨arr, rest, e, hl, h, h'⟩ => ⟨arr, rest, e, by rw [V.subL_eq]; simpa using hl, VRA.sub hi hF hk _ _ _ h, dfSub_sound hi hF hk r _ h'⟩

theorem BR.sub {A : Nat → Prop} {n0 : Nat} {io io' : Keys} {F F' : Nat → Prop} {w : World} {k : Nat} {ob : Option Blk} (hi : ∀ j, j ≠ k → io'.io j = io.io j ∧ io.ln j ≤ io'.ln j) (hF : ∀ b, F b → F' b) (hk : SubOk F' w io k ob) {j : Nat} (hj : j ≠ k) (hn : ∀ b, io.io j = some b → ¬ F b → ¬ F' b) : ∀ {b : Blk}, BR A n0 io F w j b → BR A n0 io' F' w j (b.sub k ob)
  | .data ty sz e z l, h => by
    simp only [BR, Blk.sub] at h ⊢
    rw [(hi j hj).1]
    rcases h with h | ⟨b, arr, h1, h2, h3, h4, h5⟩
    · exact .inl h
    · exact .inr ⟨b, arr, h1, hn b h1 h2, h3, h4, LRA.mono hF (fun _ _ => rfl) h5⟩
  | .box ty cells, h => by
    simp only [BR, Blk.sub] at h ⊢
    rw [(hi j hj).1]
    obtain ⟨b, arr, h1, h2, h3, h4, h5⟩ := h
    exact ⟨b, arr, h1, hn b h1 h2, h3, h4, VRA.sub hi hF hk _ _ _ h5⟩
  | .hole ty sz e z l i v, h => by
    simp only [BR, Blk.sub] at h ⊢
    rw [(hi j hj).1]
    obtain ⟨b, arr, h1, h2, h3, h4, h5⟩ := h
    obtain ⟨q0, q1, u, q2, q2', q3⟩ := h5
    exact ⟨b, arr, h1, hn b h1 h2, h3, h4, fun j a hj ha => ⟨(q0 j a hj ha).1, DRA.mono hF (fun _ _ => rfl) _ _ _ (q0 j a hj ha).2⟩, q1, u, q2, q2', VR.sub hi hF hk _ _ q3⟩

/-- A key is given up; its block, if any, is forgotten. -/
theorem SR.kill {X : Ctx} {io : Nat → Option Nat} {F : Nat → Prop} {s : St} {a : Act} {w : World} (hs : SR X io F s a w) (k : Nat) (b : Option Nat) (hK : k ∉ X.K) : SR X (updio io k b) F (s.sub k none) a w := by
  have hi : ∀ j, j ≠ k → ((s.sub k none).keys (updio io k b)).io j = (s.keys io).io j ∧ (s.keys io).ln j ≤ ((s.sub k none).keys (updio io k b)).ln j := fun j h => ⟨updio_ne io b h, by rw [show ((s.sub k none).keys (updio io k b)).ln j = (s.sub k none).ln j from rfl, sub_ln h]; exact Nat.le_refl _⟩
  refine ⟨hs.kept, fun t => VR.sub hi (fun _ h => h) subNone _ _ (hs.tm t), hs.nt, dfSub_sound hi (fun _ h => h) subNone _ _ hs.df, fun j b' hj => ?_, fun j j' c h1 h2 e1 e2 => ?_, hs.ff, hs.f0, fun j hj => (updio_ne io b (fun e => hK (by rw [← e]; exact hj))).trans (hs.st j hj)⟩
  · obtain ⟨hne, b0, h0, rfl⟩ := sub_blk hj
    exact BR.sub hi (fun _ h => h) subNone hne (fun _ _ h => h) (hs.bl j b0 h0)
  · obtain ⟨b1, hb1⟩ := Option.ne_none_iff_exists'.1 h1
    obtain ⟨b2, hb2⟩ := Option.ne_none_iff_exists'.1 h2
    obtain ⟨hn1, c1, g1, _⟩ := sub_blk hb1
    obtain ⟨hn2, c2, g2, _⟩ := sub_blk hb2
    rw [updio_ne io b hn1] at e1
    rw [updio_ne io b hn2] at e2
    exact hs.inj j j' c (by rw [g1]; simp) (by rw [g2]; simp) e1 e2

/-- A block is given away: it is written no more. -/
theorem SR.freeze {X : Ctx} {io : Nat → Option Nat} {F : Nat → Prop} {s : St} {a : Act} {w : World} (hs : SR X io F s a w) (k : Nat) {b : Blk} (hk : s.blk k = some b) : ∃ F', SR X io F' (s.sub k (some b)) a w ∧ (∀ c, F' c ↔ F c ∨ io k = some c) := by
  have hbr := hs.bl k b hk
  let F' : Nat → Prop := fun c => F c ∨ io k = some c
  have hF : ∀ c, F c → F' c := fun c h => .inl h
  have hi : ∀ j, j ≠ k → ((s.sub k (some b)).keys io).io j = (s.keys io).io j ∧ (s.keys io).ln j ≤ ((s.sub k (some b)).keys io).ln j := fun j h => ⟨rfl, by rw [show ((s.sub k (some b)).keys io).ln j = (s.sub k (some b)).ln j from rfl, sub_ln h]; exact Nat.le_refl _⟩
  have hln : (s.keys io).ln k = b.ln := ln_of hk
  have hok : SubOk F' w (s.keys io) k (some b) := by
    cases b with
    | data ty sz e z l =>
      simp only [SubOk]
      refine ⟨hln, ?_⟩
      simp only [BR] at hbr
      rcases hbr with h | ⟨c, arr, h1, h2, h3, h4, h5⟩
      · exact .inl h
      · exact .inr ⟨c, arr, ty, (0, 0), h1, .inr h1, h4, LRA.mono hF (fun _ _ => rfl) h5⟩
    | box ty cells =>
      simp only [SubOk]
      intro ds hds
      simp only [BR] at hbr
      obtain ⟨c, arr, h1, h2, h3, h4, h5⟩ := hbr
      exact ⟨c, arr, ty, (0, 0), h1, .inr h1, h4, DRA.mono hF (fun _ _ => rfl) _ _ _ (VRA.ofD hds h5)⟩
    | hole ty sz e z l i v => trivial
  refine ⟨F', ⟨hs.kept, fun t => VR.sub hi hF hok _ _ (hs.tm t), hs.nt, dfSub_sound hi hF hok _ _ hs.df, fun j b' hj => ?_, fun j j' c h1 h2 e1 e2 => ?_, fun c h => ?_, fun c h => .inl (hs.f0 c h), hs.st⟩, fun c => Iff.rfl⟩
  · obtain ⟨hne, b0, h0, rfl⟩ := sub_blk hj
    refine BR.sub hi hF hok hne (fun c h1 h2 => ?_) (hs.bl j b0 h0)
    rintro (h3 | h3)
    · exact h2 h3
    · exact hne (hs.inj j k c (by rw [h0]; simp) (by rw [hk]; simp) h1 h3)
  · obtain ⟨b1, hb1⟩ := Option.ne_none_iff_exists'.1 h1
    obtain ⟨b2, hb2⟩ := Option.ne_none_iff_exists'.1 h2
    obtain ⟨_, c1, g1, _⟩ := sub_blk hb1
    obtain ⟨_, c2, g2, _⟩ := sub_blk hb2
    exact hs.inj j j' c (by rw [g1]; simp) (by rw [g2]; simp) e1 e2
  · rcases h with h | h
    · exact hs.ff c h
    · have : c < w.heap.size ∧ (X.A c ∨ X.w0.heap.size ≤ c) := by
        cases b with
        | data ty sz e z l =>
          simp only [BR] at hbr
          rcases hbr with ⟨h0, _⟩ | ⟨c', arr, h1, h2, h3, h4, _⟩
          · rw [show io k = none from h0] at h; cases h
          · rw [show io k = some c' from h1] at h; cases h
            exact ⟨lt_of_heap h4, h3⟩
        | box ty cells =>
          simp only [BR] at hbr
          obtain ⟨c', arr, h1, h2, h3, h4, _⟩ := hbr
          rw [show io k = some c' from h1] at h; cases h
          exact ⟨lt_of_heap h4, h3⟩
        | hole ty sz e z l i v =>
          simp only [BR] at hbr
          obtain ⟨c', arr, h1, h2, h3, h4, _⟩ := hbr
          rw [show io k = some c' from h1] at h; cases h
          exact ⟨lt_of_heap h4, h3⟩
      exact ⟨this.1, this.2.elim (fun h => .inr (.inr h)) (fun h => .inr (.inl h))⟩

def St.withBlk (s : St) (k : Nat) (b : Blk) : St := { s with blk := fun j => bif Nat.beq j k then some b else s.blk j }
def St.new (s : St) (k : Nat) (b : Blk) : St := (s.sub k none).withBlk k b

theorem withBlk_ne {s : St} {k j : Nat} {b : Blk} (h : j ≠ k) : (s.withBlk k b).blk j = s.blk j := by
  simp only [St.withBlk]
  cases hb : Nat.beq j k with
  | true => exact absurd (Nat.eq_of_beq_eq_true hb) h
  | false => rfl
theorem withBlk_same {s : St} {k : Nat} {b : Blk} : (s.withBlk k b).blk k = some b := by simp [St.withBlk]
theorem withBlk_ln {s : St} {k : Nat} {b : Blk} (h : s.ln k ≤ b.ln) (j : Nat) : s.ln j ≤ (s.withBlk k b).ln j := by
  unfold St.ln
  by_cases e : j = k
  · subst e
    rw [withBlk_same]
    unfold St.ln at h
    cases b <;> exact h
  · rw [withBlk_ne e]; exact Nat.le_refl _

/-- The state with one block laid anew, where the world below is known. -/
theorem SR.setBlk {X : Ctx} {io : Nat → Option Nat} {F : Nat → Prop} {s : St} {a : Act} {w : World} (hs : SR X io F s a w) {k : Nat} {b : Blk} (hl : s.ln k ≤ b.ln) (hb : BR X.A X.w0.heap.size ((s.withBlk k b).keys io) F w k b) (hinj : ∀ j c, j ≠ k → s.blk j ≠ none → io j = some c → io k = some c → False) : SR X io F (s.withBlk k b) a w := by
  have hi : ∀ j, ((s.withBlk k b).keys io).io j = (s.keys io).io j ∧ (s.keys io).ln j ≤ ((s.withBlk k b).keys io).ln j := fun j => ⟨rfl, withBlk_ln hl j⟩
  refine ⟨hs.kept, fun t => VR.mono hi (fun _ h => h) (fun _ _ => rfl) (Shapes.refl w) _ _ (hs.tm t), hs.nt, DfR.mono hi (fun _ h => h) (fun _ _ => rfl) (Shapes.refl w) _ _ hs.df, fun j b' hj => ?_, fun j j' c h1 h2 e1 e2 => ?_, hs.ff, hs.f0, hs.st⟩
  · by_cases h : j = k
    · subst h; rw [withBlk_same] at hj; cases hj; exact hb
    · rw [withBlk_ne h] at hj
      exact BR.mono hi (fun _ h => h) (fun _ _ => rfl) (Shapes.refl w) (fun _ _ _ h1 h2 => ⟨h1, h2⟩) (hs.bl j b' hj)
  · by_cases h : j = k
    · by_cases h' : j' = k
      · rw [h, h']
      · rw [h] at e1; rw [withBlk_ne h'] at h2; exact (hinj j' c h' h2 e2 e1).elim
    · by_cases h' : j' = k
      · rw [h'] at e2; rw [withBlk_ne h] at h1; exact (hinj j c h h1 e1 e2).elim
      · rw [withBlk_ne h] at h1; rw [withBlk_ne h'] at h2; exact hs.inj j j' c h1 h2 e1 e2

theorem blk_lt {X : Ctx} {io : Nat → Option Nat} {F : Nat → Prop} {s : St} {a : Act} {w : World} (hs : SR X io F s a w) {j c : Nat} (h : s.blk j ≠ none) (e : io j = some c) : c < w.heap.size := by
  obtain ⟨b, hb⟩ := Option.ne_none_iff_exists'.1 h
  have := hs.bl j b hb
  cases b with
  | data ty sz e' z l =>
    simp only [BR] at this
    rcases this with ⟨h0, _⟩ | ⟨c', arr, h1, _, _, h4, _⟩
    · rw [show io j = none from h0] at e; cases e
    · rw [show io j = some c' from h1] at e; cases e; exact lt_of_heap h4
  | box ty cells =>
    simp only [BR] at this
    obtain ⟨c', arr, h1, _, _, h4, _⟩ := this
    rw [show io j = some c' from h1] at e; cases e; exact lt_of_heap h4
  | hole ty sz e' z l i v =>
    simp only [BR] at this
    obtain ⟨c', arr, h1, _, _, h4, _⟩ := this
    rw [show io j = some c' from h1] at e; cases e; exact lt_of_heap h4

theorem sub_ln_same (s : St) (k : Nat) (ob : Option Blk) : (s.sub k ob).ln k = 0 := by simp [St.ln, St.sub]

/-- A new block of the call's own. -/
theorem SR.newBlk {X : Ctx} {io : Nat → Option Nat} {F : Nat → Prop} {s : St} {a : Act} {w : World} (hs : SR X io F s a w) (k : Nat) (hK : k ∉ X.K) (ty : TypeId) (arr : Array Value) (b : Blk)
    (hb : (∃ (sz : Nat) (α : Type) (e : α → List D) (z : α) (l : List α), b = .data ty sz e z l ∧ LRA F w (fun j => arr[j]?) 0 sz e l) ∨ (∃ cs, b = .box ty cs ∧ VRA ((s.new k b).keys (updio io k (some w.heap.size))) F w (fun j => arr[j]?) 0 cs)) :
    SR X (updio io k (some w.heap.size)) F (s.new k b) a (w.alloc (.cells arr ty)) := by
  have h1 := (hs.kill k (some w.heap.size) hK).grow (below_alloc w (.cells arr ty)) (fun _ h => h) (fun _ h => .inl h)
  have hst : Stays F w (w.alloc (.cells arr ty)) := fun b h => (below_alloc w (.cells arr ty)).block b (hs.ff b h).1
  have hsh := shapes_of_below (below_alloc w (.cells arr ty))
  have hnF : ¬ F w.heap.size := fun h => by have := (hs.ff _ h).1; omega
  have hheap : (w.alloc (.cells arr ty)).heap[w.heap.size]? = some (.cells arr ty (0, 0)) := heap_alloc_new w _
  refine SR.setBlk h1 (by rw [sub_ln_same]; exact Nat.zero_le _) ?_ fun j c hne hj e1 e2 => ?_
  · rcases hb with ⟨sz, α, e, z, l, rfl, hd⟩ | ⟨cs, rfl, hd⟩
    · simp only [BR]
      exact .inr ⟨w.heap.size, arr, updio_same _ _ _, hnF, .inr hs.kept.size, hheap, LRA.mono (fun _ h => h) hst hd⟩
    · simp only [BR]
      exact ⟨w.heap.size, arr, updio_same _ _ _, hnF, .inr hs.kept.size, hheap, VRA.mono (fun _ => ⟨rfl, Nat.le_refl _⟩) (fun _ h => h) hst hsh _ _ _ hd⟩
  · rw [updio_same] at e2
    cases e2
    have := blk_lt (hs.kill k (some w.heap.size) hK) hj e1
    omega

/-- A write into a block of the call's own leaves all else as it is. -/
theorem SR.write {X : Ctx} {io : Nat → Option Nat} {F : Nat → Prop} {s : St} {a : Act} {w : World} (hs : SR X io F s a w) {k b : Nat} (hk : s.blk k ≠ none) (hio : io k = some b) (hF : ¬ F b) (hA : X.A b ∨ X.w0.heap.size ≤ b) {arr arr' : Array Value} {ty : TypeId} (hh : w.heap[b]? = some (.cells arr ty (0, 0))) (hsz : arr'.size = arr.size) {nb : Blk} (hl : s.ln k ≤ nb.ln)
    (hb : (∃ (sz : Nat) (α : Type) (e : α → List D) (z : α) (l : List α), nb = .data ty sz e z l ∧ LRA F w (fun j => arr'[j]?) 0 sz e l) ∨ (∃ cs, nb = .box ty cs ∧ VRA (s.keys io) F w (fun j => arr'[j]?) 0 cs) ∨ (∃ (sz : Nat) (α : Type) (e : α → List D) (z : α) (l : List α) (i : Nat) (v : V), nb = .hole ty sz e z l i v ∧ HRA (s.keys io) F w (fun j => arr'[j]?) sz e i v l)) : SR X io F (s.withBlk k nb) a (w.setRow b arr') := by
  have hlt := lt_of_heap hh
  have hoth : ∀ c, c ≠ b → (w.setRow b arr').heap[c]? = w.heap[c]? := fun c h => setRow_other w b c arr' h
  have hst : Stays F w (w.setRow b arr') := fun c h => hoth c fun e => hF (e ▸ h)
  have hself : (w.setRow b arr').heap[b]? = some (.cells arr' ty (0, 0)) := setRow_heap w b arr arr' ty _ hh
  have hsh : Shapes w (w.setRow b arr') := fun c x ty' fz h => by
    by_cases e : c = b
    · subst e; rw [hh] at h; cases h; exact ⟨arr', hself, hsz⟩
    · exact ⟨x, (hoth c e).trans h, rfl⟩
  have hsize : (w.setRow b arr').heap.size = w.heap.size := by simp [World.setRow]
  have hi : ∀ j, ((s.withBlk k nb).keys io).io j = (s.keys io).io j ∧ (s.keys io).ln j ≤ ((s.withBlk k nb).keys io).ln j := fun j => ⟨rfl, withBlk_ln hl j⟩
  refine ⟨⟨hs.kept.os, hs.kept.tape, hs.kept.output, by rw [hsize]; exact hs.kept.size, fun c h1 h2 => ?_, hs.kept.shape.trans hsh⟩, fun t => VR.mono hi (fun _ h => h) hst hsh _ _ (hs.tm t), hs.nt, DfR.mono hi (fun _ h => h) hst hsh _ _ hs.df, fun j b' hj => ?_, fun j j' c h1 h2 e1 e2 => ?_, fun c h => by rw [hsize]; exact hs.ff c h, hs.f0, hs.st⟩
  · rw [hoth c fun e => by subst e; rcases hA with h | h; exact h2 h; omega]
    exact hs.kept.block c h1 h2
  · by_cases e : j = k
    · subst e
      rw [withBlk_same] at hj
      cases hj
      rcases hb with ⟨sz, α, e, z, l, rfl, hd⟩ | ⟨cs, rfl, hd⟩ | ⟨sz, α, e, z, l, i, v, rfl, hd⟩
      · simp only [BR]
        exact .inr ⟨b, arr', hio, hF, hA, hself, LRA.mono (fun _ h => h) hst hd⟩
      · simp only [BR]
        exact ⟨b, arr', hio, hF, hA, hself, VRA.mono hi (fun _ h => h) hst hsh _ _ _ hd⟩
      · simp only [BR]
        exact ⟨b, arr', hio, hF, hA, hself, HRA.mono hi (fun _ h => h) hst hsh hd⟩
    · rw [withBlk_ne e] at hj
      have hneb : ∀ c, io j = some c → c ≠ b := fun c hc e' => e (hs.inj j k b (by rw [hj]; simp) hk (e' ▸ hc) hio)
      exact BR.mono hi (fun _ h => h) hst hsh (fun c o h1 h2 h3 => ⟨(hoth c (hneb c h1)).trans h2, h3⟩) (hs.bl j b' hj)
  · have h1' : s.blk j ≠ none := by
      by_cases e : j = k
      · rw [e]; exact hk
      · rwa [withBlk_ne e] at h1
    have h2' : s.blk j' ≠ none := by
      by_cases e : j' = k
      · rw [e]; exact hk
      · rwa [withBlk_ne e] at h2
    exact hs.inj j j' c h1' h2' e1 e2
end Go.Vw
