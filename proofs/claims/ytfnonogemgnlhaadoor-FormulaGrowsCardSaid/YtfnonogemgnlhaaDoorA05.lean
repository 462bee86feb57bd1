/-
  Contracts of functions of the program, and the layer that they are walked with: VP VPn VPd VGo VPg F01 F02 F03 F04 F05 F06 FmF. Conditions: as each says.
-/
import Derived.WalkSmall
import Derived.Recover
import Derived.Laws.Build
import Derived.Laws.Tables
import Derived.Shelf.Strings.OnBuilder
import Derived.Shelf.Strconv.Itoa3
import Derived.Shelf.Spec.SlicesGrow
import Derived.Test.YtfnonogemgnlhaaDoorA04
/-
  Contracts of functions that are lent blocks of the caller's own, write into them, and hand back new ones. Conditions: the table of types is the program's.
-/
set_option linter.unusedSimpArgs false
set_option linter.unusedVariables false
set_option linter.unusedSectionVars false
namespace Go.Vw
open Go.RowKit

mutual
def V.refs : V → List Nat
  | .own k _ _ _ _ => [k]
  | .ptr k _ => [k]
  | .eptr k _ _ _ => [k]
  | .agg cs => V.refsL cs
  | .tup cs => V.refsL cs
  | .fn _ cs => V.refsL cs
  | .d _ => []
def V.refsL : List V → List Nat
  | [] => []
  | x :: xs => V.refs x ++ V.refsL xs
end

section
variable {io io' : Keys} {F : Nat → Prop} {w : World}
mutual
theorem VR.agree : ∀ (x : V) (v : Value), (∀ k ∈ x.refs, io'.io k = io.io k ∧ io.ln k ≤ io'.ln k) → VR io F w x v → VR io' F w x v
  | .d x, v, _, h => by simp only [VR] at h ⊢; exact h
  | .own k o n ty sz, v, hk, h => by
      simp only [VR] at h ⊢
      obtain ⟨e1, e2⟩ := hk k (by simp [V.refs])
      rw [e1]
      rcases h with h | ⟨b, cap, arr, h1, h2, h3, h4, h5, h6, h7⟩
      · exact .inl h
      · exact .inr ⟨b, cap, arr, h1, h2, h3, h4, h5, h6, Nat.le_trans h7 e2⟩
  | .ptr k off, v, hk, h => by simp only [VR] at h ⊢; rw [(hk k (by simp [V.refs])).1]; exact h
  | .eptr k sz i f, v, hk, h => by simp only [VR] at h ⊢; rw [(hk k (by simp [V.refs])).1]; exact h
  | .agg cs, v, hk, h => by simp only [VR] at h ⊢; obtain ⟨a, e, l, h⟩ := h; exact ⟨a, e, l, VRA.agree cs _ _ (by simpa only [V.refs] using hk) h⟩
  | .tup cs, v, hk, h => by simp only [VR] at h ⊢; obtain ⟨a, e, l, h⟩ := h; exact ⟨a, e, l, VRT.agree cs _ _ (by simpa only [V.refs] using hk) h⟩
  | .fn f cs, v, hk, h => by simp only [VR] at h ⊢; obtain ⟨a, e, l, h⟩ := h; exact ⟨a, e, l, VRA.agree cs _ _ (by simpa only [V.refs] using hk) h⟩
theorem VRA.agree : ∀ (xs : List V) (g : Nat → Option Value) (off : Nat), (∀ k ∈ V.refsL xs, io'.io k = io.io k ∧ io.ln k ≤ io'.ln k) → VRA io F w g off xs → VRA io' F w g off xs
  | [], _, _, _, _ => by simp only [VRA]
  | x :: xs, g, off, hk, h => by
      simp only [V.refsL, List.mem_append] at hk
      simp only [VRA] at h ⊢
      obtain ⟨⟨v, e, h0, h1⟩, h2⟩ := h
      exact ⟨⟨v, e, h0, VR.agree x v (fun k h => hk k (.inl h)) h1⟩, VRA.agree xs _ _ (fun k h => hk k (.inr h)) h2⟩
theorem VRT.agree : ∀ (xs : List V) (g : Nat → Option Value) (off : Nat), (∀ k ∈ V.refsL xs, io'.io k = io.io k ∧ io.ln k ≤ io'.ln k) → VRT io F w g off xs → VRT io' F w g off xs
  | [], _, _, _, _ => by simp only [VRT]
  | x :: xs, g, off, hk, h => by
      simp only [V.refsL, List.mem_append] at hk
      simp only [VRT] at h ⊢
      obtain ⟨⟨v, e, h1⟩, h2⟩ := h
      exact ⟨⟨v, e, VR.agree x v (fun k h => hk k (.inl h)) h1⟩, VRT.agree xs _ _ (fun k h => hk k (.inr h)) h2⟩
end
end

def lnO (B : Nat → Option Blk) (k : Nat) : Nat := match B k with | some b => b.ln | none => 0
theorem lnO_eq (s : St) : s.ln = lnO s.blk := by
  funext k
  unfold lnO
  split
  · rename_i b h; exact ln_of h
  · rename_i h; simp [St.ln, h]
theorem lnO_of {B : Nat → Option Blk} {k : Nat} {b : Blk} (h : B k = some b) : lnO B k = b.ln := by unfold lnO; rw [h]
def OwnA (B : Nat → Option Blk) (io : Nat → Option Nat) : Nat → Prop := fun b => ∃ k, B k ≠ none ∧ io k = some b
structure BsR (A : Nat → Prop) (n0 : Nat) (io : Nat → Option Nat) (F : Nat → Prop) (w : World) (B : Nat → Option Blk) : Prop where
  br : ∀ k b, B k = some b → BR A n0 ⟨io, lnO B⟩ F w k b
  inj : ∀ k k' b, B k ≠ none → B k' ≠ none → io k = some b → io k' = some b → k = k'

def Blk.refs : Blk → List Nat
  | .data _ _ _ _ _ => []
  | .box _ cs => V.refsL cs
  | .hole _ _ _ _ _ _ v => v.refs

structure RetB (P : Program) (f : FuncId) (xs : List V) (B : Nat → Option Blk) (y : V) (B' : Nat → Option Blk) : Prop where
  enters : Enters P f
  keep : ∀ k, B k ≠ none → B' k ≠ none
  ln : ∀ k, B k ≠ none → lnO B k ≤ lnO B' k
  refs : ∀ k ∈ y.refs, B' k ≠ none
  refsB : ∀ k b, B' k = some b → ∀ j ∈ b.refs, B' j ≠ none
  run : ∀ (io : Nat → Option Nat) (F : Nat → Prop) (w : World) (vs : Array Value), (∀ b, F b → b < w.heap.size) → vs.size = xs.length → VRT ⟨io, lnO B⟩ F w (fun i => vs[i]?) 0 xs → BsR (OwnA B io) w.heap.size io F w B →
    Calls P f vs w fun e w' => ∃ v io' F', e = .returned v ∧ Kept (OwnA B io) w w' ∧ (∀ b, F b → F' b) ∧ (∀ b, F' b → b < w'.heap.size ∧ (F b ∨ w.heap.size ≤ b ∨ OwnA B io b)) ∧ (∀ k, B k ≠ none → io' k = io k) ∧ VR ⟨io', lnO B'⟩ F' w' y v ∧ BsR (OwnA B io) w.heap.size io' F' w' B'

theorem BR.notF {A : Nat → Prop} {n0 : Nat} {io : Keys} {F : Nat → Prop} {w : World} {k : Nat} {b : Blk} (h : BR A n0 io F w k b) {c : Nat} (e : io.io k = some c) : ¬ F c ∧ (A c ∨ n0 ≤ c) ∧ c < w.heap.size := by
  cases b with
  | data ty sz en z l =>
    simp only [BR] at h
    rcases h with ⟨h0, _⟩ | ⟨c', arr, g1, g2, g3, g4, _⟩
    · rw [h0] at e; cases e
    · rw [g1] at e; cases e; exact ⟨g2, g3, lt_of_heap g4⟩
  | box ty cells =>
    simp only [BR] at h
    obtain ⟨c', arr, g1, g2, g3, g4, _⟩ := h
    rw [g1] at e; cases e; exact ⟨g2, g3, lt_of_heap g4⟩
  | hole ty sz en z l i v =>
    simp only [BR] at h
    obtain ⟨c', arr, g1, g2, g3, g4, _⟩ := h
    rw [g1] at e; cases e; exact ⟨g2, g3, lt_of_heap g4⟩

theorem BR.agree {A A' : Nat → Prop} {n0 n0' : Nat} {io io' : Keys} {F : Nat → Prop} {w : World} {k : Nat} (hA : ∀ c, A c ∨ n0 ≤ c → A' c ∨ n0' ≤ c) (hk : io'.io k = io.io k) : ∀ {b : Blk}, (∀ j ∈ b.refs, io'.io j = io.io j ∧ io.ln j ≤ io'.ln j) → BR A n0 io F w k b → BR A' n0' io' F w k b
  | .data ty sz e z l, _, h => by
    simp only [BR] at h ⊢
    rw [hk]
    rcases h with h | ⟨b, arr, h1, h2, h3, h4, h5⟩
    · exact .inl h
    · exact .inr ⟨b, arr, h1, h2, hA _ h3, h4, h5⟩
  | .box ty cells, hj, h => by
    simp only [BR] at h ⊢
    rw [hk]
    obtain ⟨b, arr, h1, h2, h3, h4, h5⟩ := h
    exact ⟨b, arr, h1, h2, hA _ h3, h4, VRA.agree _ _ _ (by simpa only [Blk.refs] using hj) h5⟩
  | .hole ty sz e z l i v, hj, h => by
    simp only [BR] at h ⊢
    rw [hk]
    obtain ⟨b, arr, h1, h2, h3, h4, h5⟩ := h
    obtain ⟨q0, q1, u, q2, q2', q3⟩ := h5
    exact ⟨b, arr, h1, h2, hA _ h3, h4, q0, q1, u, q2, q2', VR.agree _ _ (by simpa only [Blk.refs] using hj) q3⟩

/-! ## Calling -/

def St.subs (s : St) : List Nat → St
  | [] => s
  | k :: r => (St.subs s r).sub k none
def ioSubs (io io' : Nat → Option Nat) : List Nat → Nat → Option Nat
  | [] => io
  | k :: r => updio (ioSubs io io' r) k (io' k)
theorem ioSubs_of (io io' : Nat → Option Nat) : ∀ (ks : List Nat) (k : Nat), (k ∈ ks → ioSubs io io' ks k = io' k) ∧ (k ∉ ks → ioSubs io io' ks k = io k)
  | [], k => ⟨fun h => by simp at h, fun _ => rfl⟩
  | a :: r, k => by
    obtain ⟨h1, h2⟩ := ioSubs_of io io' r k
    by_cases e : k = a
    · subst e
      exact ⟨fun _ => updio_same _ _ _, fun h => by simp at h⟩
    · refine ⟨fun h => ?_, fun h => ?_⟩
      · rw [ioSubs, updio_ne _ _ e]; exact h1 (by simpa [e] using h)
      · rw [ioSubs, updio_ne _ _ e]; exact h2 (fun h' => h (by simp [h']))
theorem SR.subs {X : Ctx} {io : Nat → Option Nat} {F : Nat → Prop} {s : St} {a : Act} {w : World} (hs : SR X io F s a w) (io' : Nat → Option Nat) : ∀ (ks : List Nat), (∀ k ∈ ks, k ∉ X.K) → SR X (ioSubs io io' ks) F (s.subs ks) a w
  | [], _ => hs
  | k :: r, h => (SR.subs hs io' r fun j hj => h j (by simp [hj])).kill k (io' k) (h k (by simp))
theorem subs_blk {s : St} : ∀ (ks : List Nat) {j : Nat} {b : Blk}, (s.subs ks).blk j = some b → j ∉ ks ∧ ∃ b0, s.blk j = some b0
  | [], j, b, h => ⟨by simp, b, h⟩
  | k :: r, j, b, h => by
    obtain ⟨hne, b0, h0, _⟩ := sub_blk h
    obtain ⟨h1, h2⟩ := subs_blk r h0
    exact ⟨by simp [hne, h1], h2⟩
theorem subs_ln {s : St} : ∀ (ks : List Nat) {j : Nat}, (s.subs ks).ln j = if j ∈ ks then 0 else s.ln j
  | [], j => by simp [St.subs]
  | k :: r, j => by
    simp only [St.subs]
    by_cases e : j = k
    · subst e; rw [sub_ln_same]; simp
    · rw [sub_ln e, subs_ln r]; simp [e]

def St.over (s : St) (bs : List (Nat × Blk)) : St := { s with blk := fun k => match lookB bs k with | some b => some b | none => s.blk k }
theorem over_ln {s : St} {bs : List (Nat × Blk)} (j : Nat) : (s.over bs).ln j = if lookB bs j = none then s.ln j else lnO (lookB bs) j := by
  rw [lnO_eq]
  unfold lnO St.over
  simp only
  cases h : lookB bs j with
  | none => simp only [if_true]; rw [lnO_eq]; rfl
  | some b => simp

def LeVT (xs ys : List V) : Prop := ys.length = xs.length ∧ ∀ io F w g off, VRT io F w g off xs → VRT io F w g off ys
theorem LeVT.nil : LeVT [] [] := ⟨rfl, fun _ _ _ _ _ h => h⟩
theorem LeVT.cons {x : V} {xs ys : List V} (h : LeVT xs ys) : LeVT (x :: xs) (x :: ys) := ⟨by simp [h.1], fun io F w g off k => by
  simp only [VRT] at k ⊢; exact ⟨k.1, h.2 _ _ _ _ _ k.2⟩⟩
theorem LeVT.consD {x y : D} {xs ys : List V} (e : LeD x y) (h : LeVT xs ys) : LeVT (.d x :: xs) (.d y :: ys) := ⟨by simp [h.1], fun io F w g off k => by
  simp only [VRT, VR] at k ⊢; obtain ⟨⟨v, k1, k2⟩, k3⟩ := k; exact ⟨⟨v, k1, e _ _ _ k2⟩, h.2 _ _ _ _ _ k3⟩⟩

section
variable {X : Ctx} {all : Array Oper} {s : St} {o : Oper} {c : Call} {f : FuncId} {caps : List V}

theorem SR.afterB (fr : List Nat) {io : Nat → Option Nat} {F : Nat → Prop} {a : Act} {w : World} (hs : SR X io F s a w) {B : Nat → Option Blk} {bs' : List (Nat × Blk)} (hB : ∀ k b, B k = some b → s.blk k = some b) (hkeep : ∀ k, B k ≠ none → lookB bs' k ≠ none) (hlnm : ∀ k, B k ≠ none → lnO B k ≤ lnO (lookB bs') k) (hrefsB : ∀ k b, lookB bs' k = some b → ∀ j ∈ b.refs, lookB bs' j ≠ none) (hfr : ∀ k, lookB bs' k ≠ none → B k ≠ none ∨ k ∈ fr) (hfr2 : ∀ k ∈ fr, k ∉ X.K ∧ B k = none) {w' : World} {io' : Nat → Option Nat} {F' : Nat → Prop} (g1 : Kept (OwnA B io) w w') (g2 : ∀ b, F b → F' b) (g3 : ∀ b, F' b → b < w'.heap.size ∧ (F b ∨ w.heap.size ≤ b ∨ OwnA B io b)) (g4 : ∀ k, B k ≠ none → io' k = io k) (g6 : BsR (OwnA B io) w.heap.size io' F' w' (lookB bs')) :
    SR X (ioSubs io io' fr) F' ((s.subs fr).over bs') a w' ∧ ∀ k, lookB bs' k ≠ none → ioSubs io io' fr k = io' k ∧ lnO (lookB bs') k ≤ ((s.subs fr).over bs').ln k := by
  have hln : ∀ k, B k ≠ none → s.ln k ≤ lnO B k := fun k hk => by
    obtain ⟨b, hb⟩ := Option.ne_none_iff_exists'.1 hk
    rw [lnO_of hb, ln_of (hB k b hb)]; exact Nat.le_refl _
  have hs1 := hs.subs io' fr (fun k hk => (hfr2 k hk).1)
  have hio1 : ∀ k, lookB bs' k ≠ none → ioSubs io io' fr k = io' k := fun k hk => by
    by_cases e : k ∈ fr
    · exact (ioSubs_of io io' fr k).1 e
    · rw [(ioSubs_of io io' fr k).2 e]
      exact (g4 k ((hfr k hk).resolve_right e)).symm
  have hA : ∀ c, OwnA B io c → X.A c ∨ X.w0.heap.size ≤ c := fun c ⟨k, hk, e⟩ => by
    obtain ⟨b, hb⟩ := Option.ne_none_iff_exists'.1 hk
    exact ((hs.bl k b (hB k b hb)).notF e).2.1
  have hAF : ∀ c, OwnA B io c → ¬ F c := fun c ⟨k, hk, e⟩ => by
    obtain ⟨b, hb⟩ := Option.ne_none_iff_exists'.1 hk
    exact ((hs.bl k b (hB k b hb)).notF e).1
  have hArea : ∀ c, OwnA B io c ∨ w.heap.size ≤ c → X.A c ∨ X.w0.heap.size ≤ c := fun c h => h.elim (hA c) (fun h => .inr (Nat.le_trans hs.kept.size h))
  have hst : Stays F w w' := fun b h => g1.block b (hs.ff b h).1 (fun h' => hAF b h' h)
  have hoth : ∀ j c, s.blk j ≠ none → B j = none → io j = some c → ¬ OwnA B io c ∧ c < w.heap.size := fun j c hj hBj e => by
    obtain ⟨b, hb⟩ := Option.ne_none_iff_exists'.1 hj
    refine ⟨fun ⟨k, hk, e'⟩ => ?_, ((hs.bl j b hb).notF e).2.2⟩
    obtain ⟨b2, hb2⟩ := Option.ne_none_iff_exists'.1 hk
    have := hs.inj j k c hj (by rw [hB k b2 hb2]; simp) e e'
    rw [this] at hBj; exact hk hBj
  have hlt : ∀ j, s.ln j ≤ lnO B j ∨ B j = none := fun j => by
    by_cases e : B j = none
    · exact .inr e
    · exact .inl (hln j e)
  have hi : ∀ k, (((s.subs fr).over bs').keys (ioSubs io io' fr)).io k = ((s.subs fr).keys (ioSubs io io' fr)).io k ∧ ((s.subs fr).keys (ioSubs io io' fr)).ln k ≤ (((s.subs fr).over bs').keys (ioSubs io io' fr)).ln k := fun k => ⟨rfl, by
    show (s.subs fr).ln k ≤ ((s.subs fr).over bs').ln k
    rw [over_ln]
    split
    · exact Nat.le_refl _
    · rename_i hk
      rw [subs_ln]
      split
      · exact Nat.zero_le _
      · rename_i hk2
        have hBk := (hfr k hk).resolve_right hk2
        exact Nat.le_trans (hln k hBk) (hlnm k hBk)⟩
  have hlnB : ∀ k, lookB bs' k ≠ none → lnO (lookB bs') k ≤ ((s.subs fr).over bs').ln k := fun k hk => by rw [over_ln, if_neg hk]; exact Nat.le_refl _
  have hov : ∀ k, lookB bs' k ≠ none → ((s.subs fr).over bs').blk k = lookB bs' k := fun k hk => by
    obtain ⟨b, hb⟩ := Option.ne_none_iff_exists'.1 hk
    simp only [St.over, hb]
  have hov2 : ∀ k, lookB bs' k = none → ((s.subs fr).over bs').blk k = (s.subs fr).blk k := fun k hk => by simp only [St.over, hk]
  have key : SR X (ioSubs io io' fr) F' ((s.subs fr).over bs') a w' := by
    refine ⟨⟨g1.os.trans hs.kept.os, g1.tape.trans hs.kept.tape, g1.output.trans hs.kept.output, Nat.le_trans hs.kept.size g1.size, fun b e1 e2 => ?_, hs.kept.shape.trans g1.shape⟩, fun t => VR.mono hi g2 hst g1.shape _ _ (hs1.tm t), hs1.nt, DfR.mono hi g2 hst g1.shape _ _ hs1.df, fun k b hk => ?_, fun k k' b e1 e2 e3 e4 => ?_, fun b hb => ?_, fun b hb => g2 b (hs.f0 b hb), hs1.st⟩
    · rw [g1.block b (Nat.lt_of_lt_of_le e1 hs.kept.size) (fun h => by rcases hA b h with h | h; exact e2 h; omega)]
      exact hs.kept.block b e1 e2
    · by_cases e : lookB bs' k = none
      · rw [hov2 k e] at hk
        obtain ⟨q1, b0, q2⟩ := subs_blk fr hk
        have hBk : B k = none := by
          by_cases h : B k = none
          · exact h
          · exact absurd e (hkeep k h)
        refine BR.mono hi g2 hst g1.shape (fun c o' e1 e2 e3 => ?_) (hs1.bl k b hk)
        have e1' : io k = some c := by rw [← (ioSubs_of io io' fr k).2 q1]; exact e1
        obtain ⟨p1, p2⟩ := hoth k c (by rw [q2]; simp) hBk e1'
        refine ⟨(g1.block c p2 p1).trans e2, fun h => ?_⟩
        rcases (g3 c h).2 with h | h | h
        · exact e3 h
        · omega
        · exact p1 h
      · rw [hov k e] at hk
        exact BR.agree (io := ⟨io', lnO (lookB bs')⟩) hArea (hio1 k e) (fun j hj => ⟨hio1 j (hrefsB k b hk j hj), hlnB j (hrefsB k b hk j hj)⟩) (g6.br k b hk)
    · by_cases h1 : lookB bs' k = none
      · by_cases h2 : lookB bs' k' = none
        · rw [hov2 k h1] at e1
          rw [hov2 k' h2] at e2
          exact hs1.inj k k' b e1 e2 e3 e4
        · exfalso
          rw [hov2 k h1] at e1
          obtain ⟨b1, hb1⟩ := Option.ne_none_iff_exists'.1 e1
          obtain ⟨q1, b0, q2⟩ := subs_blk fr hb1
          have hBk : B k = none := by
            by_cases h : B k = none
            · exact h
            · exact absurd h1 (hkeep k h)
          rw [(ioSubs_of io io' fr k).2 q1] at e3
          obtain ⟨p1, p2⟩ := hoth k b (by rw [q2]; simp) hBk e3
          rw [hio1 k' h2] at e4
          obtain ⟨b2, hb2⟩ := Option.ne_none_iff_exists'.1 h2
          rcases ((g6.br k' b2 hb2).notF e4).2.1 with h | h
          · exact p1 h
          · omega
      · by_cases h2 : lookB bs' k' = none
        · exfalso
          rw [hov2 k' h2] at e2
          obtain ⟨b1, hb1⟩ := Option.ne_none_iff_exists'.1 e2
          obtain ⟨q1, b0, q2⟩ := subs_blk fr hb1
          have hBk : B k' = none := by
            by_cases h : B k' = none
            · exact h
            · exact absurd h2 (hkeep k' h)
          rw [(ioSubs_of io io' fr k').2 q1] at e4
          obtain ⟨p1, p2⟩ := hoth k' b (by rw [q2]; simp) hBk e4
          rw [hio1 k h1] at e3
          obtain ⟨b2, hb2⟩ := Option.ne_none_iff_exists'.1 h1
          rcases ((g6.br k b2 hb2).notF e3).2.1 with h | h
          · exact p1 h
          · omega
        · rw [hio1 k h1] at e3
          rw [hio1 k' h2] at e4
          exact g6.inj k k' b h1 h2 e3 e4
    · obtain ⟨q1, q2⟩ := g3 b hb
      refine ⟨q1, ?_⟩
      rcases q2 with h | h | h
      · exact (hs.ff b h).2
      · exact .inr (.inl (Nat.le_trans hs.kept.size h))
      · rcases hA b h with h | h
        · exact .inr (.inr h)
        · exact .inr (.inl h)
  exact ⟨key, fun k hk => ⟨hio1 k hk, hlnB k hk⟩⟩

theorem SR.lendB {io : Nat → Option Nat} {F : Nat → Prop} {a : Act} {w : World} (hs : SR X io F s a w) {B : Nat → Option Blk} (hB : ∀ k b, B k = some b → s.blk k = some b) (hBr : ∀ k b, B k = some b → ∀ j ∈ b.refs, B j ≠ none) : BsR (OwnA B io) w.heap.size io F w B := by
  have hln : ∀ k, B k ≠ none → s.ln k ≤ lnO B k := fun k hk => by
    obtain ⟨b, hb⟩ := Option.ne_none_iff_exists'.1 hk
    rw [lnO_of hb, ln_of (hB k b hb)]; exact Nat.le_refl _
  exact ⟨fun k b hk => by
    have := hs.bl k b (hB k b hk)
    have hk' : B k ≠ none := by rw [hk]; simp
    have h0 := BR.agree (io := s.keys io) (A' := fun _ => True) (n0' := 0) (io' := ⟨io, lnO B⟩) (fun c _ => .inl trivial) rfl (fun j hj => ⟨rfl, hln j (hBr k b hk j hj)⟩) this
    cases b with
    | data ty sz e z l =>
      simp only [BR] at h0 ⊢
      rcases h0 with h | ⟨b, arr, g1, g2, g3, g4, g5⟩
      · exact .inl h
      · exact .inr ⟨b, arr, g1, g2, .inl ⟨k, hk', g1⟩, g4, g5⟩
    | box ty cells =>
      simp only [BR] at h0 ⊢
      obtain ⟨b, arr, g1, g2, g3, g4, g5⟩ := h0
      exact ⟨b, arr, g1, g2, .inl ⟨k, hk', g1⟩, g4, g5⟩
    | hole ty sz e z l i v =>
      simp only [BR] at h0 ⊢
      obtain ⟨b, arr, g1, g2, g3, g4, g5⟩ := h0
      exact ⟨b, arr, g1, g2, .inl ⟨k, hk', g1⟩, g4, g5⟩,
    fun k k' b e1 e2 e3 e4 => by
      obtain ⟨b1, hb1⟩ := Option.ne_none_iff_exists'.1 e1
      obtain ⟨b2, hb2⟩ := Option.ne_none_iff_exists'.1 e2
      exact hs.inj k k' b (by rw [hB k b1 hb1]; simp) (by rw [hB k' b2 hb2]; simp) e3 e4⟩

theorem e_callB (fr : List Nat) (hg : gd all s o = some true) (hd : dstOk X.N o.dst = true) (hop : o.op = .call c) (hc : calleeOf s c = some (f, caps)) {xs : List V} (le : LeVT (c.args.toList.map s.opd ++ caps) xs) {B : Nat → Option Blk} {bs' : List (Nat × Blk)} {y : V} (hr : RetB X.P f xs B y (lookB bs')) (hB : ∀ k b, B k = some b → s.blk k = some b) (hxr : ∀ k ∈ V.refsL xs, B k ≠ none) (hBr : ∀ k b, B k = some b → ∀ j ∈ b.refs, B j ≠ none) (hfr : ∀ k, lookB bs' k ≠ none → B k ≠ none ∨ k ∈ fr) (hfr2 : ∀ k ∈ fr, k ∉ X.K ∧ B k = none) : E1 X all s o (((s.subs fr).over bs').put o.dst y) := fun io F a w hs K Q hK => by
  obtain ⟨vs, h1, h2, h3⟩ := run_call (P := X.P) (operands_of (all := all) (fun t _ => hs.tm t)) hop hc hr.enters
  unfold opWp
  rw [if_pos (gd_sound (fun t _ => hs.tm t) hg)]; left
  unfold Oper.wp; rw [h1]
  simp only [Oper.upon]
  have hln : ∀ k, B k ≠ none → s.ln k ≤ lnO B k := fun k hk => by
    obtain ⟨b, hb⟩ := Option.ne_none_iff_exists'.1 hk
    rw [lnO_of hb, ln_of (hB k b hb)]; exact Nat.le_refl _
  have hargs : VRT ⟨io, lnO B⟩ F w (fun i => vs[i]?) 0 xs := VRT.agree (io := s.keys io) _ _ _ (fun k hk => ⟨rfl, hln k (hxr k hk)⟩) (le.2 _ _ _ _ _ h3)
  have hbl := hs.lendB hB hBr
  refine (hr.run io F w vs (fun b h => (hs.ff b h).1) (by rw [h2, le.1]) hargs hbl).mono fun e w' ⟨v, io', F', he, g1, g2, g3, g4, g5, g6⟩ => ?_
  subst he
  obtain ⟨key, hkk⟩ := hs.afterB fr hB hr.keep hr.ln hr.refsB hfr hfr2 g1 g2 g3 g4 g6
  refine hK (ioSubs io io' fr) F' _ _ (key.put (dstOk_sound hd) (VR.agree (io := ⟨io', lnO (lookB bs')⟩) _ _ (fun k hk => hkk k (hr.refs k hk)) g5))
end

/-! ## Leaving -/

def St.initB (xs : List V) (bs : List (Nat × Blk)) : St := { tmps := fun t => nth (.d .undef) xs t, blk := lookB bs, dfs := [] }
def OneLe (ys : List V) (y : V) : Prop := (∃ x, ys = [x] ∧ LeVT [x] [y]) ∨ (ys.length ≠ 1 ∧ ∃ zs, y = .tup zs ∧ LeVT ys zs)
def retPostB (T : TypeId → Option TyD) (fn : Func) (y : V) (bs' : List (Nat × Blk)) : Exit → St → Prop
  | .normal, s | .ret, s => s.dfs = [] ∧ (∃ ys, resAll T s fn.results.toList = some ys ∧ OneLe ys y) ∧ AllB s bs'
  | _, _ => False
def coverR (bs : List (Nat × Blk)) : List (Nat × Blk) → Bool
  | [] => true
  | (_, b) :: r => keysOk bs b.refs && coverR bs r
theorem hasKey_ne {bs : List (Nat × Blk)} {k : Nat} (h : hasKey bs k = true) : lookB bs k ≠ none := by
  unfold hasKey at h
  split at h
  · rename_i b hb; rw [hb]; simp
  · cases h
theorem lookB_mem {bs : List (Nat × Blk)} {k : Nat} {b : Blk} : lookB bs k = some b → (k, b) ∈ bs := by
  induction bs with
  | nil => intro h; simp [lookB] at h
  | cons p r ih =>
    obtain ⟨k', v⟩ := p
    intro h
    simp only [lookB] at h
    cases hb : Nat.beq k k' with
    | true => have := Nat.eq_of_beq_eq_true hb; subst this; rw [hb] at h; simp at h; simp [h]
    | false => rw [hb] at h; exact List.mem_cons_of_mem _ (ih (by simpa using h))
theorem coverR_spec {bs : List (Nat × Blk)} : ∀ {l : List (Nat × Blk)}, coverR bs l = true → ∀ p ∈ l, ∀ j ∈ p.2.refs, lookB bs j ≠ none
  | [], _, p, h => by simp at h
  | (a, v) :: l, h, p, hp => by
    simp only [coverR, Bool.and_eq_true] at h
    rcases List.mem_cons.1 hp with rfl | hp
    · exact fun j hj => hasKey_ne (keysOk_spec h.1 j hj)
    · exact coverR_spec h.2 p hp
def LnLe (bs' : List (Nat × Blk)) : List (Nat × Blk) → Prop
  | [] => True
  | (k, b) :: r => b.ln ≤ lnO (lookB bs') k ∧ LnLe bs' r
theorem LnLe_spec {bs' : List (Nat × Blk)} : ∀ {l : List (Nat × Blk)}, LnLe bs' l → ∀ p ∈ l, p.2.ln ≤ lnO (lookB bs') p.1
  | [], _, p, h => by simp at h
  | (a, v) :: l, h, p, hp => by
    rcases List.mem_cons.1 hp with rfl | hp
    · exact h.1
    · exact LnLe_spec h.2 p hp

theorem sr_initB {P : Program} {T : TypeId → Option TyD} (hT : TabOk P T) {N : Nat} {w : World} {io : Nat → Option Nat} {F : Nat → Prop} {xs : List V} {bs : List (Nat × Blk)} {ks : List Nat} {vs : Array Value} (hl : vs.size = xs.length) (hn : xs.length ≤ N) (hF : ∀ b, F b → b < w.heap.size) (hv : VRT ⟨io, lnO (lookB bs)⟩ F w (fun i => vs[i]?) 0 xs) (hbs : BsR (OwnA (lookB bs) io) w.heap.size io F w (lookB bs)) : SR ⟨P, T, hT, N, w, OwnA (lookB bs) io, F, ks, io⟩ io F (St.initB xs bs) { tmps := vs ++ Array.replicate (N - vs.size) undef, defers := [] } w := by
  have hk : (St.initB xs bs).keys io = ⟨io, lnO (lookB bs)⟩ := by unfold St.keys; rw [lnO_eq]; rfl
  refine ⟨⟨rfl, rfl, rfl, Nat.le_refl _, fun _ _ _ => rfl, Shapes.refl _⟩, fun t => ?_, by simp; omega, rfl, fun k b h => by rw [hk]; exact hbs.br k b h, hbs.inj, fun b h => ⟨hF b h, .inl h⟩, fun b h => h, fun k hk => rfl⟩
  rw [hk]
  simp only [St.initB]
  by_cases ht : t < vs.size
  · have hx := List.getElem?_eq_getElem (show t < xs.length by omega)
    obtain ⟨v, h1, h2⟩ := VRT_iff.1 hv t _ hx
    simp only [Nat.zero_add] at h1
    rw [nth_of hx]
    have : (vs ++ Array.replicate (N - vs.size) undef).getD t undef = v := by
      rw [Array.getD_eq_getD_getElem?, Array.getElem?_append_left ht, h1]; rfl
    rw [this]; exact h2
  · rw [nth_none (by omega)]; simp only [VR, DR]

def RetPost (io : Nat → Option Nat) (F : Nat → Prop) (w : World) (bs : List (Nat × Blk)) (y : V) (bs' : List (Nat × Blk)) : Ending → World → Prop := fun e w' => ∃ v io' F', e = .returned v ∧ Kept (OwnA (lookB bs) io) w w' ∧ (∀ b, F b → F' b) ∧ (∀ b, F' b → b < w'.heap.size ∧ (F b ∨ w.heap.size ≤ b ∨ OwnA (lookB bs) io b)) ∧ (∀ k, lookB bs k ≠ none → io' k = io k) ∧ VR ⟨io', lnO (lookB bs')⟩ F' w' y v ∧ BsR (OwnA (lookB bs) io) w.heap.size io' F' w' (lookB bs')
theorem retB_fin {P : Program} {T : TypeId → Option TyD} {hT : TabOk P T} {fn : Func} {N : Nat} {ks : List Nat} {bs bs' : List (Nat × Blk)} {y : V} (hks : bs.map (·.1) = ks) (hcov : (keysOk bs' ks && keysOk bs' y.refs && coverR bs' bs') = true) {io io' : Nat → Option Nat} {F F' : Nat → Prop} {w w' : World} {s' : St} {a' : Act} (hs' : SR ⟨P, T, hT, N, w, OwnA (lookB bs) io, F, ks, io⟩ io' F' s' a' w') (hq : s'.dfs = [] ∧ (∃ ys, resAll T s' fn.results.toList = some ys ∧ OneLe ys y) ∧ AllB s' bs') : a'.defers = [] ∧ ∃ v, (results fn a'.tmps).run P w' = .ok v w' ∧ RetPost io F w bs y bs' (.returned v) w' := by
  simp only [Bool.and_eq_true] at hcov
  obtain ⟨⟨c1, c2⟩, c3⟩ := hcov
  have hkey : ∀ k, lookB bs k ≠ none → k ∈ ks := fun k hk => by
    obtain ⟨b, hb⟩ := Option.ne_none_iff_exists'.1 hk
    rw [← hks]; exact List.mem_map.2 ⟨_, lookB_mem hb, rfl⟩
  obtain ⟨hd, ⟨ys, h1, h2⟩, h3⟩ := hq
  obtain ⟨vs', hvs, hl', hd'⟩ := resAll_sound hT hs' _ h1
  have hln' : ∀ k, lookB bs' k ≠ none → s'.ln k ≤ lnO (lookB bs') k := fun k hk => by
    obtain ⟨b, hb⟩ := Option.ne_none_iff_exists'.1 hk
    rw [ln_of (lookB_of h3 k b hb).1, lnO_of hb]; exact Nat.le_refl _
  have hag : ∀ k ∈ y.refs, io' k = io' k ∧ s'.ln k ≤ lnO (lookB bs') k := fun k hk => ⟨rfl, hln' k (hasKey_ne (keysOk_spec c2 k hk))⟩
  have hdf := hs'.df
  rw [hd] at hdf
  have hbs' : BsR (OwnA (lookB bs) io) w.heap.size io' F' w' (lookB bs') := ⟨fun k b hk => BR.agree (io := s'.keys io') (io' := ⟨io', lnO (lookB bs')⟩) (fun _ h => h) rfl (fun j hj => ⟨rfl, hln' j (coverR_spec c3 _ (lookB_mem hk) j hj)⟩) (hs'.bl k b (lookB_of h3 k b hk).1), fun k k' b e1 e2 e3 e4 => by
    obtain ⟨b1, hb1⟩ := Option.ne_none_iff_exists'.1 e1
    obtain ⟨b2, hb2⟩ := Option.ne_none_iff_exists'.1 e2
    exact hs'.inj k k' b (by rw [(lookB_of h3 k b1 hb1).1]; simp) (by rw [(lookB_of h3 k' b2 hb2).1]; simp) e3 e4⟩
  refine ⟨hdf, _, run_results fn hvs, _, io', F', rfl, hs'.kept, hs'.f0, hs'.ff, fun k hk => hs'.st k (hkey k hk), ?_, hbs'⟩
  rcases h2 with ⟨x, rfl, hx⟩ | ⟨hne, zs, rfl, hz⟩
  · obtain ⟨v, rfl⟩ := List.length_eq_one_iff.1 (show vs'.length = 1 by simpa using hl')
    have := hx.2 _ _ _ _ _ hd'
    simp only [VRT] at this
    obtain ⟨⟨u, hu, hd2⟩, _⟩ := this
    simp at hu; subst hu
    exact VR.agree (io := s'.keys io') _ _ hag hd2
  · have hn1 : vs'.length ≠ 1 := by rw [hl']; exact hne
    have := hz.2 _ _ _ _ _ hd'
    refine VR.agree (io := s'.keys io') _ _ hag ?_
    rw [dif_neg hn1]
    simp only [VR]
    exact ⟨vs'.toArray, rfl, by simp; rw [hl', hz.1], by simpa using this⟩
theorem retB_of_awp {P : Program} {T : TypeId → Option TyD} (hT : TabOk P T) {f : FuncId} {fn : Func} {c : Code} (ks : List Nat) (hf : P.funcs[f]? = some fn) (hname : (fn.name == "runtime.NumGoroutine") = false) (hb : fn.body = some c) {xs : List V} {bs bs' : List (Nat × Blk)} {y : V} (hks : bs.map (·.1) = ks) (hn : xs.length ≤ fn.ntmps) (hcov : (keysOk bs' ks && keysOk bs' y.refs && coverR bs' bs') = true) (hln : LnLe bs' bs)
    (h : ∀ w0 F0 A io0, awp ⟨P, T, hT, fn.ntmps, w0, A, F0, ks, io0⟩ c (retPostB T fn y bs') (St.initB xs bs)) : RetB P f xs (lookB bs) y (lookB bs') := by
  simp only [Bool.and_eq_true] at hcov
  obtain ⟨⟨c1, c2⟩, c3⟩ := hcov
  have hkey : ∀ k, lookB bs k ≠ none → k ∈ ks := fun k hk => by
    obtain ⟨b, hb⟩ := Option.ne_none_iff_exists'.1 hk
    rw [← hks]; exact List.mem_map.2 ⟨_, lookB_mem hb, rfl⟩
  refine ⟨⟨fn, hf, hname, by rw [hb]; rfl⟩, fun k hk => hasKey_ne (keysOk_spec c1 k (hkey k hk)), fun k hk => ?_, fun k hk => hasKey_ne (keysOk_spec c2 k hk), fun k b hk j hj => coverR_spec c3 _ (lookB_mem hk) j hj, fun io F w vs hF hl hv hbs => ?_⟩
  · obtain ⟨b, hb⟩ := Option.ne_none_iff_exists'.1 hk
    rw [lnO_of hb]
    exact LnLe_spec hln _ (lookB_mem hb)
  refine calls_of_wp hf hb ?_
  refine wp_mono (h w F _ io io F _ w (sr_initB hT (ks := ks) hl hn hF hv hbs)) fun e a' w' ⟨s', io', F', hq, hs'⟩ => ?_
  cases e <;> simp only [retPostB] at hq <;> first | exact hq.elim | exact retB_fin hks (by simp only [Bool.and_eq_true]; exact ⟨⟨c1, c2⟩, c3⟩) hs' hq

theorem finB {T : TypeId → Option TyD} {fn : Func} {y x : V} {bs' : List (Nat × Blk)} {s : St} (hd : s.dfs = []) (h : resAll T s fn.results.toList = some [x]) (hle : LeVT [x] [y]) (hB : AllB s bs') : retPostB T fn y bs' .ret s := ⟨hd, ⟨_, h, .inl ⟨x, rfl, hle⟩⟩, hB⟩
theorem finBT {T : TypeId → Option TyD} {fn : Func} {ys zs : List V} {bs' : List (Nat × Blk)} {s : St} (hd : s.dfs = []) (h : resAll T s fn.results.toList = some ys) (hn : Nat.beq ys.length 1 = false) (hle : LeVT ys zs) (hB : AllB s bs') : retPostB T fn (.tup zs) bs' .ret s := ⟨hd, ⟨_, h, .inr ⟨beq_ne hn, zs, rfl, hle⟩⟩, hB⟩

/-! ## Keys under other names -/

mutual
def V.ren (σ : Nat → Nat) : V → V
  | .own k o n ty sz => .own (σ k) o n ty sz
  | .ptr k o => .ptr (σ k) o
  | .eptr k sz i f => .eptr (σ k) sz i f
  | .agg cs => .agg (V.renL σ cs)
  | .tup cs => .tup (V.renL σ cs)
  | .fn f cs => .fn f (V.renL σ cs)
  | .d x => .d x
def V.renL (σ : Nat → Nat) : List V → List V
  | [] => []
  | x :: xs => V.ren σ x :: V.renL σ xs
end
theorem V.renL_len (σ : Nat → Nat) : ∀ l, (V.renL σ l).length = l.length
  | [] => rfl
  | x :: xs => by simp [V.renL, V.renL_len σ xs]
section
variable {io : Keys} {σ : Nat → Nat} {F : Nat → Prop} {w : World}
mutual
theorem VR.ren : ∀ (x : V) (v : Value), VR ⟨fun k => io.io (σ k), fun k => io.ln (σ k)⟩ F w x v ↔ VR io F w (x.ren σ) v
  | .d x, v => by simp only [V.ren, VR]
  | .own k o n ty sz, v => by simp only [V.ren, VR]
  | .ptr k o, v => by simp only [V.ren, VR]
  | .eptr k sz i f, v => by simp only [V.ren, VR]
  | .agg cs, v => by
    simp only [V.ren, VR, V.renL_len]
    exact ⟨fun ⟨a, e, l, h⟩ => ⟨a, e, l, (VRA.ren cs _ _).1 h⟩, fun ⟨a, e, l, h⟩ => ⟨a, e, l, (VRA.ren cs _ _).2 h⟩⟩
  | .tup cs, v => by
    simp only [V.ren, VR, V.renL_len]
    exact ⟨fun ⟨a, e, l, h⟩ => ⟨a, e, l, (VRT.ren cs _ _).1 h⟩, fun ⟨a, e, l, h⟩ => ⟨a, e, l, (VRT.ren cs _ _).2 h⟩⟩
  | .fn f cs, v => by
    simp only [V.ren, VR, V.renL_len]
    exact ⟨fun ⟨a, e, l, h⟩ => ⟨a, e, l, (VRA.ren cs _ _).1 h⟩, fun ⟨a, e, l, h⟩ => ⟨a, e, l, (VRA.ren cs _ _).2 h⟩⟩
theorem VRA.ren : ∀ (xs : List V) (g : Nat → Option Value) (off : Nat), VRA ⟨fun k => io.io (σ k), fun k => io.ln (σ k)⟩ F w g off xs ↔ VRA io F w g off (V.renL σ xs)
  | [], _, _ => by simp only [V.renL, VRA]
  | x :: xs, g, off => by
    simp only [V.renL, VRA]
    exact ⟨fun ⟨⟨v, e, h0, h1⟩, h2⟩ => ⟨⟨v, e, h0, (VR.ren x v).1 h1⟩, (VRA.ren xs _ _).1 h2⟩, fun ⟨⟨v, e, h0, h1⟩, h2⟩ => ⟨⟨v, e, h0, (VR.ren x v).2 h1⟩, (VRA.ren xs _ _).2 h2⟩⟩
theorem VRT.ren : ∀ (xs : List V) (g : Nat → Option Value) (off : Nat), VRT ⟨fun k => io.io (σ k), fun k => io.ln (σ k)⟩ F w g off xs ↔ VRT io F w g off (V.renL σ xs)
  | [], _, _ => by simp only [V.renL, VRT]
  | x :: xs, g, off => by
    simp only [V.renL, VRT]
    exact ⟨fun ⟨⟨v, e, h1⟩, h2⟩ => ⟨⟨v, e, (VR.ren x v).1 h1⟩, (VRT.ren xs _ _).1 h2⟩, fun ⟨⟨v, e, h1⟩, h2⟩ => ⟨⟨v, e, (VR.ren x v).2 h1⟩, (VRT.ren xs _ _).2 h2⟩⟩
end
end
def Blk.ren (σ : Nat → Nat) : Blk → Blk
  | .data ty sz e z l => .data ty sz e z l
  | .box ty cs => .box ty (V.renL σ cs)
  | .hole ty sz e z l i v => .hole ty sz e z l i (V.ren σ v)
theorem Blk.ren_ln (σ : Nat → Nat) (b : Blk) : (b.ren σ).ln = b.ln := by cases b <;> rfl
theorem BR.ren {A : Nat → Prop} {n0 : Nat} {io : Keys} {σ : Nat → Nat} {F : Nat → Prop} {w : World} {k : Nat} {b : Blk} : BR A n0 ⟨fun k => io.io (σ k), fun k => io.ln (σ k)⟩ F w k b ↔ BR A n0 io F w (σ k) (b.ren σ) := by
  cases b with
  | data ty sz e z l => simp only [Blk.ren, BR]
  | box ty cs => simp only [Blk.ren, BR, VRA.ren]
  | hole ty sz e z l i v => simp only [Blk.ren, BR, HRA, VR.ren]
mutual
theorem V.ren_refs (σ : Nat → Nat) : ∀ (x : V) (k : Nat), k ∈ (x.ren σ).refs ↔ ∃ j ∈ x.refs, σ j = k
  | .d x, k => by simp [V.ren, V.refs]
  | .own j o n ty sz, k => by simp [V.ren, V.refs, eq_comm]
  | .ptr j o, k => by simp [V.ren, V.refs, eq_comm]
  | .eptr j sz i f, k => by simp [V.ren, V.refs, eq_comm]
  | .agg cs, k => by simp only [V.ren, V.refs]; exact V.renL_refs σ cs k
  | .tup cs, k => by simp only [V.ren, V.refs]; exact V.renL_refs σ cs k
  | .fn f cs, k => by simp only [V.ren, V.refs]; exact V.renL_refs σ cs k
theorem V.renL_refs (σ : Nat → Nat) : ∀ (xs : List V) (k : Nat), k ∈ V.refsL (V.renL σ xs) ↔ ∃ j ∈ V.refsL xs, σ j = k
  | [], k => by simp [V.renL, V.refsL]
  | x :: xs, k => by
    simp only [V.renL, V.refsL, List.mem_append, V.ren_refs σ x k, V.renL_refs σ xs k]
    exact ⟨fun h => h.elim (fun ⟨j, h1, h2⟩ => ⟨j, .inl h1, h2⟩) (fun ⟨j, h1, h2⟩ => ⟨j, .inr h1, h2⟩), fun ⟨j, h1, h2⟩ => h1.elim (fun h => .inl ⟨j, h, h2⟩) (fun h => .inr ⟨j, h, h2⟩)⟩
end
theorem Blk.ren_refs (σ : Nat → Nat) (b : Blk) (k : Nat) : k ∈ (b.ren σ).refs ↔ ∃ j ∈ b.refs, σ j = k := by
  cases b with
  | data ty sz e z l => simp [Blk.ren, Blk.refs]
  | box ty cs => simp only [Blk.ren, Blk.refs]; exact V.renL_refs σ cs k
  | hole ty sz e z l i v => simp only [Blk.ren, Blk.refs]; exact V.ren_refs σ v k

def renO (σ τ : Nat → Nat) (B : Nat → Option Blk) (k : Nat) : Option Blk := (B (τ k)).map (Blk.ren σ)
theorem RetB.renO {P : Program} {f : FuncId} {xs : List V} {B B' : Nat → Option Blk} {y : V} (h : RetB P f xs B y B') {σ τ : Nat → Nat} (h1 : ∀ k, σ (τ k) = k) (h2 : ∀ k, τ (σ k) = k) : RetB P f (V.renL σ xs) (renO σ τ B) (V.ren σ y) (renO σ τ B') := by
  have ne : ∀ (B : Nat → Option Blk) k, Vw.renO σ τ B k ≠ none ↔ B (τ k) ≠ none := fun B k => by simp [Vw.renO]
  have ln : ∀ (B : Nat → Option Blk) k, lnO (Vw.renO σ τ B) k = lnO B (τ k) := fun B k => by
    unfold lnO Vw.renO
    cases B (τ k) with
    | none => rfl
    | some b => exact Blk.ren_ln σ b
  have lnf : ∀ (B : Nat → Option Blk), (fun k => lnO (Vw.renO σ τ B) (σ k)) = lnO B := fun B => by funext k; rw [ln, h2]
  have ow : ∀ io, OwnA (Vw.renO σ τ B) io = OwnA B (fun k => io (σ k)) := fun io => by
    funext b
    apply propext
    constructor
    · rintro ⟨k, e1, e2⟩
      exact ⟨τ k, (ne B k).1 e1, by simp only [h1]; exact e2⟩
    · rintro ⟨k, e1, e2⟩
      exact ⟨σ k, (ne B (σ k)).2 (by rw [h2]; exact e1), e2⟩
  have bs : ∀ (A : Nat → Prop) n0 (io : Nat → Option Nat) F w (B : Nat → Option Blk), BsR A n0 io F w (Vw.renO σ τ B) ↔ BsR A n0 (fun k => io (σ k)) F w B := fun A n0 io F w B => by
    constructor
    · intro hb
      refine ⟨fun k b hk => ?_, fun k k' b e1 e2 e3 e4 => ?_⟩
      · have := hb.br (σ k) (b.ren σ) (by simp [Vw.renO, h2, hk])
        have := BR.ren.2 this
        simp only [lnf] at this
        exact this
      · have := hb.inj (σ k) (σ k') b ((ne B _).2 (by rw [h2]; exact e1)) ((ne B _).2 (by rw [h2]; exact e2)) e3 e4
        have := congrArg τ this
        rwa [h2, h2] at this
    · intro hb
      refine ⟨fun k b hk => ?_, fun k k' b e1 e2 e3 e4 => ?_⟩
      · simp only [Vw.renO, Option.map_eq_some_iff] at hk
        obtain ⟨b0, e0, rfl⟩ := hk
        have := hb.br (τ k) b0 e0
        rw [← lnf B] at this
        have := BR.ren (io := ⟨io, lnO (Vw.renO σ τ B)⟩).1 this
        rwa [h1] at this
      · have := hb.inj (τ k) (τ k') b ((ne B _).1 e1) ((ne B _).1 e2) (by rw [h1]; exact e3) (by rw [h1]; exact e4)
        have := congrArg σ this
        rwa [h1, h1] at this
  refine ⟨h.enters, fun k hk => (ne B' k).2 (h.keep _ ((ne B k).1 hk)), fun k hk => by rw [ln, ln]; exact h.ln _ ((ne B k).1 hk), fun k hk => ?_, fun k b hk j hj => ?_, fun io F w vs hF hl hv hb => ?_⟩
  · obtain ⟨j, e1, rfl⟩ := (V.ren_refs σ y k).1 hk
    exact (ne B' _).2 (by rw [h2]; exact h.refs j e1)
  · simp only [Vw.renO, Option.map_eq_some_iff] at hk
    obtain ⟨b0, e0, rfl⟩ := hk
    obtain ⟨i, e1, rfl⟩ := (Blk.ren_refs σ b0 j).1 hj
    exact (ne B' _).2 (by rw [h2]; exact h.refsB _ b0 e0 i e1)
  · have hv' := (VRT.ren (io := ⟨io, lnO (Vw.renO σ τ B)⟩) xs _ _).2 hv
    simp only [lnf] at hv'
    rw [ow io] at hb ⊢
    refine (h.run (fun k => io (σ k)) F w vs hF (by rw [hl, V.renL_len]) hv' ((bs _ _ _ _ _ _).1 hb)).mono fun e w' ⟨v, io', F', he, g1, g2, g3, g4, g5, g6⟩ => ?_
    have eio : (fun k => (fun k => io' (τ k)) (σ k)) = io' := by funext k; simp only [h2]
    refine ⟨v, fun k => io' (τ k), F', he, g1, g2, g3, fun k hk => ?_, ?_, ?_⟩
    · show io' (τ k) = _
      rw [g4 _ ((ne B k).1 hk), h1]
    · refine (VR.ren (io := ⟨fun k => io' (τ k), lnO (Vw.renO σ τ B')⟩) y v).1 ?_
      simp only [lnf, h2]
      exact g5
    · refine (bs _ _ _ _ _ _).2 ?_
      rw [eio]; exact g6

theorem beq_of_ne {a b : Nat} (h : a ≠ b) : Nat.beq a b = false := by
  cases hb : Nat.beq a b with
  | true => exact absurd (Nat.eq_of_beq_eq_true hb) h
  | false => rfl
def swp (a b k : Nat) : Nat := bif Nat.beq k a then b else bif Nat.beq k b then a else k
theorem swp_swp (a b k : Nat) : swp a b (swp a b k) = k := by
  unfold swp
  by_cases h1 : k = a
  · subst h1
    simp only [Nat.beq_refl, cond_true]
    by_cases h2 : b = k
    · subst h2; simp
    · have : Nat.beq b k = false := beq_of_ne h2
      simp [this]
  · have e1 : Nat.beq k a = false := beq_of_ne h1
    by_cases h2 : k = b
    · subst h2; simp [e1]
    · have e2 : Nat.beq k b = false := beq_of_ne h2
      simp [e1, e2]
def perm : List (Nat × Nat) → Nat → Nat
  | [], k => k
  | (a, b) :: r, k => perm r (swp a b k)
def permI : List (Nat × Nat) → Nat → Nat
  | [], k => k
  | (a, b) :: r, k => swp a b (permI r k)
theorem perm_permI : ∀ l k, perm l (permI l k) = k
  | [], k => rfl
  | (a, b) :: r, k => by simp only [perm, permI, swp_swp, perm_permI r]
theorem permI_perm : ∀ l k, permI l (perm l k) = k
  | [], k => rfl
  | (a, b) :: r, k => by simp only [perm, permI, permI_perm r, swp_swp]
def renB (σ : Nat → Nat) : List (Nat × Blk) → List (Nat × Blk)
  | [] => []
  | (k, b) :: r => (σ k, b.ren σ) :: renB σ r
theorem lookB_ren {σ τ : Nat → Nat} (h1 : ∀ k, σ (τ k) = k) (h2 : ∀ k, τ (σ k) = k) : ∀ bs, Vw.renO σ τ (lookB bs) = lookB (renB σ bs)
  | [] => rfl
  | (k, b) :: r => by
    funext j
    have ih := congrFun (lookB_ren h1 h2 r) j
    simp only [Vw.renO, renB, lookB] at ih ⊢
    by_cases e : j = σ k
    · subst e; simp [h2]
    · have e1 : Nat.beq j (σ k) = false := beq_of_ne e
      have e2 : Nat.beq (τ j) k = false := by
        have : τ j ≠ k := fun e' => e (by rw [← e', h1])
        exact beq_of_ne this
      rw [e1, e2]; simpa using ih
theorem RetB.ren {P : Program} {f : FuncId} {xs : List V} {bs bs' : List (Nat × Blk)} {y : V} (h : RetB P f xs (lookB bs) y (lookB bs')) (l : List (Nat × Nat)) {xs2 : List V} {bs2 bs2' : List (Nat × Blk)} {y2 : V} (e1 : V.renL (perm l) xs = xs2 := by rfl) (e2 : renB (perm l) bs = bs2 := by rfl) (e3 : V.ren (perm l) y = y2 := by rfl) (e4 : renB (perm l) bs' = bs2' := by rfl) : RetB P f xs2 (lookB bs2) y2 (lookB bs2') := by
  subst e1 e2 e3 e4
  have := h.renO (perm_permI l) (permI_perm l)
  rwa [lookB_ren (perm_permI l) (permI_perm l), lookB_ren (perm_permI l) (permI_perm l)] at this

/-! ## The rule -/

def keysIn (bs : List (Nat × Blk)) (fr : List Nat) : List (Nat × Blk) → Bool
  | [] => true
  | (k, _) :: r => (hasKey bs k || fr.elem k) && keysIn bs fr r
theorem keysIn_spec {bs : List (Nat × Blk)} {fr : List Nat} : ∀ {l : List (Nat × Blk)}, keysIn bs fr l = true → ∀ p ∈ l, lookB bs p.1 ≠ none ∨ p.1 ∈ fr
  | [], _, p, h => by simp at h
  | (a, v) :: l, h, p, hp => by
    simp only [keysIn, Bool.and_eq_true, Bool.or_eq_true] at h
    rcases List.mem_cons.1 hp with rfl | hp
    · exact h.1.imp hasKey_ne (fun h => by simpa using h)
    · exact keysIn_spec h.2 p hp
def freshOk (K : List Nat) (bs : List (Nat × Blk)) : List Nat → Bool
  | [] => true
  | k :: r => !(K.contains k) && !(hasKey bs k) && freshOk K bs r
theorem freshOk_spec {K : List Nat} {bs : List (Nat × Blk)} : ∀ {l : List Nat}, freshOk K bs l = true → ∀ k ∈ l, k ∉ K ∧ lookB bs k = none
  | [], _, k, h => by simp at h
  | a :: l, h, k, hk => by
    simp only [freshOk, Bool.and_eq_true, Bool.not_eq_true'] at h
    rcases List.mem_cons.1 hk with rfl | hk
    · refine ⟨notMem h.1.1, ?_⟩
      have := h.1.2
      unfold hasKey at this
      split at this
      · cases this
      · assumption
    · exact freshOk_spec h.2 k hk

theorem leVT {xs ys : List V} (h : LeVT xs ys := by
  first
  | ((repeat' (first | exact Go.Vw.LeVT.nil | apply Go.Vw.LeVT.cons | (refine Go.Vw.LeVT.consD ?_ ?_) | exact Go.Vw.LeD.full | exact Go.Vw.LeD.tk0 | exact Go.Vw.LeD.cutAll Go.Vw.sc | exact Go.Vw.LeD.refl _ | exact Go.Vw.LeD.eqi (by omega) | exact Go.Vw.LeD.nils | (refine Go.Vw.LeD.agg ?_; exact Go.Vw.leL) | (refine Go.Vw.LeD.lit rfl ?_; repeat' (first | exact Go.Vw.LeR.nil | refine Go.Vw.LeR.cons rfl Go.Vw.leL ?_)) | (refine Go.Vw.LeD.fn ?_; exact Go.Vw.leL) | (refine Go.Vw.LeD.ptr ?_ _; exact Go.Vw.leL))); done)
  | fail) : LeVT xs ys := h
theorem allB {s : St} {bs : List (Nat × Blk)} (h : AllB s bs := by
  first
  | exact trivial
  | exact ⟨rfl, trivial⟩
  | exact ⟨rfl, rfl, trivial⟩
  | exact ⟨rfl, rfl, rfl, trivial⟩
  | exact ⟨rfl, rfl, rfl, rfl, trivial⟩
  | fail) : AllB s bs := h
theorem clB {X : Ctx} {all : Array Oper} {s : St} {o : Oper} {Q : Exit → St → Prop} {rest : List Oper} {c : Call} {caps : List V} {d : Tmp} (f : FuncId) (fr : List Nat) {xs : List V} {bs bs' : List (Nat × Blk)} {y : V} (hr : RetB X.P f xs (lookB bs) y (lookB bs')) (hcf : calleeIs s o.op f = true) (hop : o.op = .call c) (hc : calleeOf s c = some (f, caps)) (hdst : o.dst = some d) (hg : gd all s o = some true) (hd : dstOk X.N (some d) = true) (hcov : (keysOk bs (V.refsL xs) && coverR bs bs && keysIn bs fr bs' && freshOk X.K bs fr) = true) (le : LeVT (c.args.toList.map s.opd ++ caps) xs) (hB : AllB s bs) (k : awpL X all rest Q (((s.subs fr).over bs').put (some d) y)) : awpL X all (o :: rest) Q s := by
  simp only [Bool.and_eq_true] at hcov
  obtain ⟨⟨⟨c1, c2⟩, c3⟩, c4⟩ := hcov
  rw [← hdst] at hd k
  exact awpL_step (e_callB fr hg hd hop hc le hr (fun k b hk => (lookB_of hB k b hk).1) (fun k hk => hasKey_ne (keysOk_spec c1 k hk)) (fun k b hk j hj => coverR_spec c2 _ (lookB_mem hk) j hj) (fun k hk => by
    obtain ⟨b, hb⟩ := Option.ne_none_iff_exists'.1 hk
    exact keysIn_spec c3 _ (lookB_mem hb)) (fun k hk => freshOk_spec c4 k hk)) k

/-! ## Where ways meet -/

@[irreducible] def Stop (p : Prop) : Prop := p
theorem stopOut {p : Prop} (h : p) : Stop p := by unfold Stop; exact h
def headId : Code → Option Nat
  | .region id _ _ => some id
  | .seq x _ => headId x
  | .block _ c => headId c
  | .loop c => headId c
  | _ => none
def headIs (n : Nat) (c : Code) : Bool := match headId c with | some m => Nat.beq m n | none => false
theorem stopA (n : Nat) {X : Ctx} {c : Code} {Q : Exit → St → Prop} {s : St} (h : headIs n c = true) (k : Stop (awp X c Q s)) : awp X c Q s := by unfold Stop at k; exact k
end Go.Vw

/-
  Panics: contracts of functions that end in one, and the steps that lead to one. Conditions: the table of types is the program's.
-/
namespace Go.Vw
open Go.RowKit

def D.val1 : D → Value
  | .bool b => .bool b
  | .int k n => .int k n
  | .str s => .string ⟨s.toArray⟩
  | _ => .bool false
def D.val : D → Value
  | .agg cs => .agg (cs.map D.val1).toArray
  | x => x.val1
def D.plain1 : D → Bool
  | .bool _ => true
  | .int _ _ => true
  | .str _ => true
  | _ => false
def D.plain : D → Bool
  | .agg cs => cs.all D.plain1
  | x => x.plain1
section
variable {F : Nat → Prop} {w : World}
theorem DR.val1 {x : D} {v : Value} (e : x.plain1 = true) (h : DR F w x v) : v = x.val1 := by
  cases x <;> first | (cases e; done) | (simp only [DR] at h; simp only [D.val1]; exact h)
theorem DR.of1 {x : D} (e : x.plain1 = true) : DR F w x x.val1 ∧ x.val1.oneCell' = true := by
  cases x <;> first | (cases e; done) | (simp only [DR, D.val1]; exact ⟨trivial, rfl⟩)
theorem DR.val {x : D} {v : Value} (e : x.plain = true) (h : DR F w x v) : v = x.val := by
  cases x with
  | agg cs =>
    simp only [D.plain] at e
    simp only [DR] at h
    obtain ⟨arr, rfl, hl, ha⟩ := h
    rw [DRA_iff] at ha
    simp only [D.val]
    congr 1
    apply Array.ext
    · simp [hl]
    · intro i h1 h2
      have hi : i < cs.length := by omega
      obtain ⟨u, g1, _, g2⟩ := ha i cs[i] (List.getElem?_eq_getElem hi)
      simp only [Nat.zero_add] at g1
      rw [Array.getElem?_eq_getElem h1, Option.some.injEq] at g1
      rw [g1, DR.val1 (List.all_eq_true.1 e _ (List.getElem_mem hi)) g2]
      simp
  | _ => exact DR.val1 (by simpa only [D.plain] using e) h
theorem DR.ofVal {x : D} (e : x.plain = true) : DR F w x x.val := by
  cases x with
  | agg cs =>
    simp only [D.plain] at e
    simp only [DR, D.val]
    refine ⟨_, rfl, by simp, ?_⟩
    rw [DRA_iff]
    intro i c hi
    obtain ⟨hlt, hc⟩ := List.getElem?_eq_some_iff.1 hi
    have := DR.of1 (F := F) (w := w) (List.all_eq_true.1 e c (hc ▸ List.getElem_mem hlt))
    refine ⟨c.val1, ?_, this.2, this.1⟩
    simp [hlt, hc]
  | _ => exact (DR.of1 (by simpa only [D.plain] using e)).1
end

abbrev thrown (u : Value) : List PanicEntry := [{ v := u, recovered := false }]

structure PanB (P : Program) (f : FuncId) (xs : List V) (B : Nat → Option Blk) (u : Value) : Prop where
  enters : Enters P f
  run : ∀ (io : Nat → Option Nat) (F : Nat → Prop) (w : World) (vs : Array Value), (∀ b, F b → b < w.heap.size) → vs.size = xs.length → VRT ⟨io, lnO B⟩ F w (fun i => vs[i]?) 0 xs → BsR (OwnA B io) w.heap.size io F w B →
    Calls P f vs w fun e w' => e = .panicked (thrown u) ∧ Kept (OwnA B io) w w'

/-! ## The state behind a panic of a callee -/

theorem SR.lose1 {X : Ctx} {io : Nat → Option Nat} {F : Nat → Prop} {s : St} {a : Act} {w : World} (hs : SR X io F s a w) (k : Nat) : SR X io F (s.sub k none) a w := by
  have h0 : SR { X with K := [] } io F s a w := ⟨hs.kept, hs.tm, hs.nt, hs.df, hs.bl, hs.inj, hs.ff, hs.f0, fun _ h => by simp at h⟩
  have h1 := h0.kill k (io k) (by simp)
  have e : updio io k (io k) = io := by
    funext j
    by_cases h : j = k
    · subst h; exact updio_same _ _ _
    · exact updio_ne _ _ h
  rw [e] at h1
  exact ⟨h1.kept, h1.tm, h1.nt, h1.df, h1.bl, h1.inj, h1.ff, h1.f0, hs.st⟩
theorem SR.loses {X : Ctx} {io : Nat → Option Nat} {F : Nat → Prop} {s : St} {a : Act} {w : World} (hs : SR X io F s a w) : ∀ ks : List Nat, SR X io F (s.subs ks) a w
  | [] => hs
  | k :: r => (hs.loses r).lose1 k
theorem SR.later {X : Ctx} {io : Nat → Option Nat} {F : Nat → Prop} {s : St} {a : Act} {w w' : World} (hs : SR X io F s a w) {A' : Nat → Prop} (g : Kept A' w w') (hA : ∀ c, A' c → (X.A c ∨ X.w0.heap.size ≤ c) ∧ ¬ F c) (ho : ∀ j c, s.blk j ≠ none → io j = some c → ¬ A' c) : SR X io F s a w' := by
  have hst : Stays F w w' := fun b h => g.block b (hs.ff b h).1 (fun h' => (hA b h').2 h)
  have hi : ∀ k, (s.keys io).io k = (s.keys io).io k ∧ (s.keys io).ln k ≤ (s.keys io).ln k := fun k => ⟨rfl, Nat.le_refl _⟩
  refine ⟨⟨g.os.trans hs.kept.os, g.tape.trans hs.kept.tape, g.output.trans hs.kept.output, Nat.le_trans hs.kept.size g.size, fun b e1 e2 => ?_, hs.kept.shape.trans g.shape⟩, fun t => VR.mono hi (fun _ h => h) hst g.shape _ _ (hs.tm t), hs.nt, DfR.mono hi (fun _ h => h) hst g.shape _ _ hs.df, fun k b hk => ?_, hs.inj, fun b hb => ⟨Nat.lt_of_lt_of_le (hs.ff b hb).1 g.size, (hs.ff b hb).2⟩, hs.f0, hs.st⟩
  · rw [g.block b (Nat.lt_of_lt_of_le e1 hs.kept.size) (fun h => by rcases (hA b h).1 with h | h; exact e2 h; omega)]
    exact hs.kept.block b e1 e2
  · refine BR.mono hi (fun _ h => h) hst g.shape (fun c o' e1 e2 e3 => ?_) (hs.bl k b hk)
    exact ⟨(g.block c (lt_of_heap e2) (ho k c (by rw [hk]; simp) e1)).trans e2, e3⟩

section
variable {X : Ctx} {all : Array Oper} {Q : Exit → St → Prop} {s : St} {o : Oper} {rest : List Oper}
theorem clP (f : FuncId) {c : Call} {caps : List V} {xs : List V} {bs : List (Nat × Blk)} {u : Value} (hr : PanB X.P f xs (lookB bs) u) (hcf : calleeIs s o.op f = true) (hop : o.op = .call c) (hc : calleeOf s c = some (f, caps)) (hg : gd all s o = some true) (hcov : (keysOk bs (V.refsL xs) && coverR bs bs) = true) (le : LeVT (c.args.toList.map s.opd ++ caps) xs) (hB : AllB s bs) (k : Q (.panic (thrown u)) (s.subs (bs.map (·.1)))) : awpL X all (o :: rest) Q s := fun io F a w hs => by
  simp only [Bool.and_eq_true] at hcov
  obtain ⟨c1, c2⟩ := hcov
  refine wpList_cons ?_
  obtain ⟨vs, h1, h2, h3⟩ := run_call (P := X.P) (operands_of (all := all) (fun t _ => hs.tm t)) hop hc hr.enters
  unfold opWp
  rw [if_pos (gd_sound (fun t _ => hs.tm t) hg)]; left
  unfold Oper.wp; rw [h1]
  simp only [Oper.upon]
  have hB' : ∀ k b, lookB bs k = some b → s.blk k = some b := fun k b hk => (lookB_of hB k b hk).1
  have hln : ∀ k, lookB bs k ≠ none → s.ln k ≤ lnO (lookB bs) k := fun k hk => by
    obtain ⟨b, hb⟩ := Option.ne_none_iff_exists'.1 hk
    rw [lnO_of hb, ln_of (hB' k b hb)]; exact Nat.le_refl _
  have hargs : VRT ⟨io, lnO (lookB bs)⟩ F w (fun i => vs[i]?) 0 xs := VRT.agree (io := s.keys io) _ _ _ (fun k hk => ⟨rfl, hln k (hasKey_ne (keysOk_spec c1 k hk))⟩) (le.2 _ _ _ _ _ h3)
  have hbl := hs.lendB hB' (fun k b hk j hj => coverR_spec c2 _ (lookB_mem hk) j hj)
  refine (hr.run io F w vs (fun b h => (hs.ff b h).1) (by rw [h2, le.1]) hargs hbl).mono fun e w' ⟨he, g⟩ => ?_
  subst he
  refine ⟨_, io, F, k, (hs.loses (bs.map (·.1))).later g (fun c ⟨k, hk, e⟩ => ?_) (fun j c hj e ⟨k, hk, e'⟩ => ?_)⟩
  · obtain ⟨b, hb⟩ := Option.ne_none_iff_exists'.1 hk
    have := (hs.bl k b (hB' k b hb)).notF e
    exact ⟨this.2.1, this.1⟩
  · obtain ⟨b0, hb0⟩ := Option.ne_none_iff_exists'.1 hj
    obtain ⟨q1, b1, q2⟩ := subs_blk _ hb0
    obtain ⟨b, hb⟩ := Option.ne_none_iff_exists'.1 hk
    have := hs.inj j k c (by rw [q2]; simp) (by rw [hB' k b hb]; simp) e e'
    subst this
    exact q1 (List.mem_map.2 ⟨_, lookB_mem hb, rfl⟩)
theorem stepPanic {x : Operand} {t : TypeId} {y : D} (hop : o.op = .panic x) (hx : s.opd x = .d (.ifc t y)) (hy : y.plain = true) (hg : gd all s o = some true) (k : Q (.panic (thrown (.iface t y.val))) s) : awpL X all (o :: rest) Q s := fun io F a w hs => by
  refine wpList_cons ?_
  unfold opWp
  rw [if_pos (gd_sound (fun t _ => hs.tm t) hg)]; left
  have h := hs.opd x
  rw [hx] at h
  simp only [VR, DR] at h
  obtain ⟨u, e, h⟩ := h
  have := DR.val hy h
  subst this
  have hr : (execOp a.eval o).run X.P w = .halt (.panic (.iface t y.val)) w := by
    simp only [execOp, hop, e, Sem.run_bind, run_panic_iface, Result.andThen]
  unfold Oper.wp; rw [hr]
  exact ⟨s, io, F, k, hs⟩
end

/-! ## How a function ends -/

inductive Out : Type 1 where
  | ret (y : V) (bs' : List (Nat × Blk))
  | pan (u : Value)
def OutB (P : Program) (f : FuncId) (xs : List V) (bs : List (Nat × Blk)) : Out → Prop
  | .ret y bs' => RetB P f xs (lookB bs) y (lookB bs')
  | .pan u => PanB P f xs (lookB bs) u
def outPost (T : TypeId → Option TyD) (fn : Func) : Out → Exit → St → Prop
  | .ret y bs', e, s => retPostB T fn y bs' e s
  | .pan u, .panic c, s => c = thrown u ∧ s.dfs = []
  | .pan _, _, _ => False
theorem panB_of_awp {P : Program} {T : TypeId → Option TyD} (hT : TabOk P T) {f : FuncId} {fn : Func} {c : Code} (ks : List Nat) (hf : P.funcs[f]? = some fn) (hname : (fn.name == "runtime.NumGoroutine") = false) (hb : fn.body = some c) {xs : List V} {bs : List (Nat × Blk)} {u : Value} (hn : xs.length ≤ fn.ntmps)
    (h : ∀ w0 F0 A io0, awp ⟨P, T, hT, fn.ntmps, w0, A, F0, ks, io0⟩ c (outPost T fn (.pan u)) (St.initB xs bs)) : PanB P f xs (lookB bs) u := by
  refine ⟨⟨fn, hf, hname, by rw [hb]; rfl⟩, fun io F w vs hF hl hv hbs => ?_⟩
  refine calls_of_wp hf hb ?_
  refine wp_mono (h w F _ io io F _ w (sr_initB hT (ks := ks) hl hn hF hv hbs)) fun e a' w' ⟨s', io', F', hq, hs'⟩ => ?_
  cases e <;> simp only [outPost] at hq <;> first | exact hq.elim | skip
  obtain ⟨rfl, hd⟩ := hq
  have hdf := hs'.df
  rw [hd] at hdf
  exact ⟨hdf, rfl, hs'.kept⟩
def coverO (ks : List Nat) : Out → Bool
  | .ret y bs' => keysOk bs' ks && keysOk bs' y.refs && coverR bs' bs'
  | .pan _ => true
def LnO (bs : List (Nat × Blk)) : Out → Prop
  | .ret y bs' => LnLe bs' bs
  | .pan _ => True
theorem outB_of_awp {P : Program} {T : TypeId → Option TyD} (hT : TabOk P T) {f : FuncId} {fn : Func} {c : Code} (ks : List Nat) (hf : P.funcs[f]? = some fn) (hname : (fn.name == "runtime.NumGoroutine") = false) (hb : fn.body = some c) {xs : List V} {bs : List (Nat × Blk)} {o : Out} (hks : bs.map (·.1) = ks) (hn : xs.length ≤ fn.ntmps) (hcov : coverO ks o = true) (hln : LnO bs o)
    (h : ∀ w0 F0 A io0, awp ⟨P, T, hT, fn.ntmps, w0, A, F0, ks, io0⟩ c (outPost T fn o) (St.initB xs bs)) : OutB P f xs bs o := by
  cases o with
  | ret y bs' => exact retB_of_awp hT ks hf hname hb hks hn hcov hln h
  | pan u => exact panB_of_awp hT ks hf hname hb hn h
end Go.Vw

/-
  Deferred closures that recover: their contracts, and functions that put one off. Conditions: the table of types is the program's.
-/
namespace Go.Vw
open Go.RowKit

theorem VRA.toT {io : Keys} {F : Nat → Prop} {w : World} {g : Nat → Option Value} : ∀ {cs : List V} {off : Nat}, VRA io F w g off cs → VRT io F w g off cs
  | [], _, _ => by simp only [VRT]
  | c :: cs, off, h => by
    simp only [VRA] at h
    simp only [VRT]
    obtain ⟨⟨v, e, _, h1⟩, h2⟩ := h
    exact ⟨⟨v, e, h1⟩, VRA.toT h2⟩

section
variable {X : Ctx} {all : Array Oper} {Q : Exit → St → Prop} {s : St} {o : Oper} {rest : List Oper}
theorem stepDefer {c : Call} {y : Operand} {g : FuncId} {caps : List V} (hop : o.op = .defer c) (hc : c.callee = .value y) (hy : s.opd y = .fn g caps) (ha : c.args = #[]) (hdst : o.dst = none) (hg : gd all s o = some true) (k : awpL X all rest Q { s with dfs := (g, caps) :: s.dfs }) : awpL X all (o :: rest) Q s := fun io F a w hs => by
  refine wpList_cons ?_
  unfold opWp
  rw [if_pos (gd_sound (fun t _ => hs.tm t) hg)]; left
  have h := hs.opd y
  rw [hy] at h
  simp only [VR] at h
  obtain ⟨arr, e, hl, hv⟩ := h
  have hr : (execOp a.eval o).run X.P w = .ok (.defer { target := .fn (.func g) arr, args := #[] }) w := by
    simp [execOp, hop, resolve, hc, e, ha, Deferred.ofValue, Sem.run_bind, Sem.run_pure, Result.andThen]
  unfold Oper.wp; rw [hr]
  simp only [Oper.upon, hdst, Act.put]
  exact k io F _ w ⟨hs.kept, hs.tm, hs.nt, ⟨arr, a.defers, rfl, hl, hv, hs.df⟩, hs.bl, hs.inj, hs.ff, hs.f0, hs.st⟩
def isIfcD : TypeDesc → Bool
  | .interface _ => true
  | _ => false
theorem stepIfc {t : TypeId} {x : Operand} {y : D} {d : Tmp} (hop : o.op = .makeInterface t x) (hy : s.opd x = .d y) (hdst : o.dst = some d) (ht : (match X.T t with | some td => !(isIfcD td.desc) | none => false) = true) (hg : gd all s o = some true) (hd : dstOk X.N (some d) = true) (k : awpL X all rest Q (s.put (some d) (.d (.ifc t y)))) : awpL X all (o :: rest) Q s := fun io F a w hs => by
  refine wpList_cons ?_
  have h := hs.opd x
  rw [hy] at h
  simp only [VR] at h
  have hcon : X.P.concrete t = true := by
    cases htd : X.T t with
    | none => rw [htd] at ht; cases ht
    | some td =>
      rw [htd] at ht
      have hu := (X.ok t td htd).und
      unfold Program.concrete
      rw [hu]
      simp only at ht
      cases hd : td.desc with
      | interface ms => rw [hd] at ht; cases ht
      | _ => rfl
  have hr : (execOp a.eval o).run X.P w = .ok (.value (.iface t (a.eval x))) w := by
    simp only [execOp, hop, Sem.run_bind, run_makeInterface w t _ hcon, Result.andThen_ok, Sem.run_pure]
  refine opWp_value (gd_sound (fun t _ => hs.tm t) hg) hr ?_
  rw [hdst]
  exact k io F _ w (hs.put (fun d' e => by cases e; exact dstOk_sound hd d rfl) (by simp only [VR, DR]; exact ⟨_, rfl, h⟩))
end

structure DefC (P : Program) (g : FuncId) (caps : List V) (bs : List (Nat × Blk)) (u u' : FrameMode) (bs' : List (Nat × Blk)) : Prop where
  enters : Enters P g
  run : ∀ (io : Nat → Option Nat) (F : Nat → Prop) (w : World) (vs : Array Value), (∀ b, F b → b < w.heap.size) → vs.size = caps.length → VRT ⟨io, lnO (lookB bs)⟩ F w (fun i => vs[i]?) 0 caps → BsR (OwnA (lookB bs) io) w.heap.size io F w (lookB bs) →
    CallsD P g vs u w fun e u2 w' => u2 = u' ∧ RetPost io F w bs (.tup []) bs' e w'
  keep : ∀ k, lookB bs k ≠ none → lookB bs' k ≠ none
  ln : ∀ k, lookB bs k ≠ none → lnO (lookB bs) k ≤ lnO (lookB bs') k
  refsB : ∀ k b, lookB bs' k = some b → ∀ j ∈ b.refs, lookB bs' j ≠ none

inductive Rcv : FrameMode → D → FrameMode → Prop where
  | nil : Rcv .returning (.raw .nilIface) .returning
  | got {t : TypeId} {x : D} (h : x.plain = true) : Rcv (.panicking (thrown (.iface t x.val))) (.ifc t x) (.panicking [{ v := .iface t x.val, recovered := true }])


theorem recover_run {P : Program} {ev : Operand → Value} {o : Oper} {w : World} {ty : Array TypeId} (hop : o.op = .call { callee := .builtin .recover, args := #[], argTypes := ty }) : (execOp ev o).run P w = .ok .recover w := by
  simp [execOp, hop, resolve, invoke, builtin, Sem.run_bind, Sem.run_pure, Result.andThen]

theorem defC_of_awp {P : Program} {T : TypeId → Option TyD} (hT : TabOk P T) {g : FuncId} {fn : Func} {rest : Code} {o : Oper} {id : Nat} {d : Tmp} {ty : Array TypeId} (ks : List Nat) (hf : P.funcs[g]? = some fn) (hname : (fn.name == "runtime.NumGoroutine") = false) (hb : fn.body = some (.seq (.region id #[o] false) rest)) (hop : o.op = .call { callee := .builtin .recover, args := #[], argTypes := ty }) (hgu : o.guard = none) (hdst : o.dst = some d) (hd : Nat.blt d fn.ntmps = true) {caps : List V} {bs bs' : List (Nat × Blk)} {x : D} {u u' : FrameMode} (hu : Rcv u x u') (hks : bs.map (·.1) = ks) (hn : caps.length ≤ fn.ntmps) (hcov : (keysOk bs' ks && coverR bs' bs') = true) (hln : LnLe bs' bs)
    (h : ∀ w0 F0 A io0, awp ⟨P, T, hT, fn.ntmps, w0, A, F0, ks, io0⟩ rest (retPostB T fn (.tup []) bs') ((St.initB caps bs).put (some d) (.d x))) : DefC P g caps bs u u' bs' := by
  have hcov2 := hcov
  simp only [Bool.and_eq_true] at hcov
  obtain ⟨c1, c3⟩ := hcov
  have hkey : ∀ k, lookB bs k ≠ none → k ∈ ks := fun k hk => by
    obtain ⟨b, hb⟩ := Option.ne_none_iff_exists'.1 hk
    rw [← hks]; exact List.mem_map.2 ⟨_, lookB_mem hb, rfl⟩
  refine ⟨⟨fn, hf, hname, by rw [hb]; rfl⟩, fun io F w vs hF hl hv hbs => ?_, fun k hk => hasKey_ne (keysOk_spec c1 k (hkey k hk)), fun k hk => ?_, fun k b hk j hj => coverR_spec c3 _ (lookB_mem hk) j hj⟩
  · refine callsD_of_wpS hf hb fun c₀ cs hc₀ => ?_
    have hwant : ∀ m, Region.wanted o m = true := fun m => by unfold Region.wanted; rw [hgu]
    -- what the rest does, from the state behind recover
    have main : ∀ (v : Value) (c₁ : Frame), (∀ F w, DR F w x v) → c₁ = { c₀ with mode := u' } → rest.wpS P (bodyPostS P fn c₀ cs fun e u2 w' => u2 = u' ∧ RetPost io F w bs (.tup []) bs' e w') (Act.put { tmps := vs ++ Array.replicate (fn.ntmps - vs.size) undef, defers := [] } o.dst v) (c₁ :: cs) w := fun v c₁ hvx hc₁ => by
      refine wpS_of_wp ?_
      have hs0 := sr_initB hT (ks := ks) hl hn hF hv hbs
      have hs1 := hs0.put (dst := o.dst) (x := .d x) (v := v) (fun e' he => by rw [hdst] at he; cases he; simpa [Nat.blt_eq] using hd) (by simp only [VR]; exact hvx _ _)
      rw [hdst] at hs1 ⊢
      refine wp_mono (h w F _ io io F _ w hs1) fun e a' w' ⟨s', io', F', hq, hs'⟩ => ?_
      have fin := fun hq => retB_fin (fn := fn) (y := .tup []) hks (by simp only [V.refs, V.refsL, keysOk, Bool.and_true]; exact hcov2) hs' hq
      cases e <;> simp only [retPostB] at hq <;> first | exact hq.elim | skip
      all_goals
        obtain ⟨q1, vv, q2, q3⟩ := fin hq
        exact ⟨q1, u', by rw [hc₁], vv, q2, rfl, q3⟩
    refine wpS_seq (wpS_region ?_)
    have hr := fun a : Act => recover_run (P := P) (ev := a.eval) (w := w) hop
    show wpOpsS P #[o] _ [0] _ _ _
    simp only [wpOpsS, List.getElem?_toArray, List.getElem?_cons_zero, hr]
    cases hu with
    | nil =>
      have : recoverD (c₀ :: cs) = none := by unfold recoverD; simp only; rw [hc₀]
      rw [this, if_pos (hwant _)]
      exact main .nilIface c₀ (fun F w => by simp only [DR]) (by rw [← hc₀])
    | @got t x hx =>
      have : recoverD (c₀ :: cs) = some (.iface t x.val, { c₀ with mode := .panicking [{ v := .iface t x.val, recovered := true }] } :: cs) := by unfold recoverD; simp only; rw [hc₀]
      rw [this, if_pos (hwant _)]
      exact main _ _ (fun F w => by simp only [DR]; exact ⟨_, rfl, DR.ofVal hx⟩) rfl
  · obtain ⟨b, hb⟩ := Option.ne_none_iff_exists'.1 hk
    rw [lnO_of hb]
    exact LnLe_spec hln _ (lookB_mem hb)

/-! ## A function that puts off a closure -/

end Go.Vw

/-
  The walk's steps under one name (made by tools/genvgo.py). Conditions: as each rule says.
-/
namespace Go.Vw

section
variable {ex : Bool} {X : Ctx} {all : Array Oper} {Q : Exit → St → Prop} {s : St} {o : Oper} {pre rest : List Oper} {d : Tmp} {p : Prop} [Decidable p]
theorem gdLDT (hg : guardOf all o = some d) (hd : s.tmps d = .d (.bool (decide p))) (hp : p) : awpL X all (o :: rest) Q (s.put (some d) (.d (.bool true))) → awpL X all (o :: rest) Q s := fun h => gdLD hg hd (fun _ => h) (fun e => absurd hp e)
theorem gdLDF (hg : guardOf all o = some d) (hd : s.tmps d = .d (.bool (decide p))) (hp : ¬ p) : awpL X all (o :: rest) Q (s.put (some d) (.d (.bool false))) → awpL X all (o :: rest) Q s := fun h => gdLD hg hd (fun e => absurd e hp) (fun _ => h)
theorem gdLNT (hg : guardOf all o = some d) (hd : s.tmps d = .d (.bool (!decide p))) (hp : ¬ p) : awpL X all (o :: rest) Q (s.put (some d) (.d (.bool true))) → awpL X all (o :: rest) Q s := fun h => gdLN hg hd (fun _ => h) (fun e => absurd e hp)
theorem gdLNF (hg : guardOf all o = some d) (hd : s.tmps d = .d (.bool (!decide p))) (hp : p) : awpL X all (o :: rest) Q (s.put (some d) (.d (.bool false))) → awpL X all (o :: rest) Q s := fun h => gdLN hg hd (fun e => absurd hp e) (fun _ => h)
theorem gdRDT (hg : guardOf all o = some d) (hd : s.tmps d = .d (.bool (decide p))) (hp : p) : awpR ex X all (o :: pre) rest Q (s.put (some d) (.d (.bool true))) → awpR ex X all (o :: pre) rest Q s := fun h => gdRD hg hd (fun _ => h) (fun e => absurd hp e)
theorem gdRDF (hg : guardOf all o = some d) (hd : s.tmps d = .d (.bool (decide p))) (hp : ¬ p) : awpR ex X all (o :: pre) rest Q (s.put (some d) (.d (.bool false))) → awpR ex X all (o :: pre) rest Q s := fun h => gdRD hg hd (fun e => absurd e hp) (fun _ => h)
theorem gdRNT (hg : guardOf all o = some d) (hd : s.tmps d = .d (.bool (!decide p))) (hp : ¬ p) : awpR ex X all (o :: pre) rest Q (s.put (some d) (.d (.bool true))) → awpR ex X all (o :: pre) rest Q s := fun h => gdRN hg hd (fun _ => h) (fun e => absurd e hp)
theorem gdRNF (hg : guardOf all o = some d) (hd : s.tmps d = .d (.bool (!decide p))) (hp : p) : awpR ex X all (o :: pre) rest Q (s.put (some d) (.d (.bool false))) → awpR ex X all (o :: pre) rest Q s := fun h => gdRN hg hd (fun e => absurd hp e) (fun _ => h)
variable {c : Operand} {x y : Code}
theorem cdDT (hc : s.opd c = .d (.bool (decide p))) (hp : p) : awp X x Q s → awp X (.cond c x y) Q s := fun h => awp_condD hc (fun _ => h) (fun e => absurd hp e)
theorem cdDF (hc : s.opd c = .d (.bool (decide p))) (hp : ¬ p) : awp X y Q s → awp X (.cond c x y) Q s := fun h => awp_condD hc (fun e => absurd e hp) (fun _ => h)
theorem cdNT (hc : s.opd c = .d (.bool (!decide p))) (hp : ¬ p) : awp X x Q s → awp X (.cond c x y) Q s := fun h => awp_condN hc (fun _ => h) (fun e => absurd e hp)
theorem cdNF (hc : s.opd c = .d (.bool (!decide p))) (hp : p) : awp X y Q s → awp X (.cond c x y) Q s := fun h => awp_condN hc (fun e => absurd hp e) (fun _ => h)
end
theorem wG {G P : Prop} (k : G) (h : G → P := by
  first
  | (show _ → awpL _ _ _ _ _
     first
     | exact Go.Vw.stepQ true Go.Vw.tt Go.Vw.stt rfl rfl rfl Go.Vw.sc
     | exact Go.Vw.awpL_nil
     | exact Go.Vw.stepOff Go.Vw.sff rfl rfl
     | exact Go.Vw.stepStore Go.Vw.tt rfl rfl rfl rfl rfl rfl rfl rfl rfl Go.Vw.leL Go.Vw.sc
     | exact Go.Vw.stepStoreV Go.Vw.tt rfl rfl rfl rfl rfl rfl rfl rfl Go.Vw.sc
     | exact Go.Vw.stepAppF Go.Vw.tt rfl rfl rfl rfl rfl rfl rfl rfl rfl rfl rfl (Go.Vw.LeD.refl _) (Go.Vw.LeD.lit rfl (Go.Vw.LeR.cons rfl Go.Vw.leL Go.Vw.LeR.nil)) Go.Vw.sc
     | exact Go.Vw.stepAppF Go.Vw.tt rfl rfl rfl rfl rfl rfl rfl rfl rfl rfl rfl (Go.Vw.LeD.refl _) (Go.Vw.LeD.lit rfl Go.Vw.LeR.nil) Go.Vw.sc
     | exact Go.Vw.stepApp Go.Vw.tt rfl rfl rfl rfl rfl rfl rfl rfl rfl rfl rfl rfl Go.Vw.sc Go.Vw.srcOk Go.Vw.sc
     | exact Go.Vw.stepAppNil Go.Vw.tt rfl rfl rfl rfl rfl rfl rfl rfl rfl rfl rfl Go.Vw.srcZ Go.Vw.sc
     | exact Go.Vw.stepE1 Go.Vw.tt rfl rfl rfl rfl rfl
     | exact Go.Vw.stepE0 Go.Vw.tt rfl rfl rfl
     | exact Go.Vw.stepLitF Go.Vw.tt rfl Go.Vw.tt rfl rfl rfl
     | exact Go.Vw.stepLit Go.Vw.tt rfl rfl rfl rfl
     | exact Go.Vw.stepMake (mm := true) (en := Go.Vw.eN .u32) (z := 0) Go.Vw.tt rfl rfl rfl rfl rfl rfl rfl rfl rfl rfl rfl rfl Go.Vw.leL Go.Vw.sc Go.Vw.sc
     | exact Go.Vw.stepMake (mm := false) (en := Go.Vw.eN .u32) (z := 0) Go.Vw.tt rfl rfl rfl rfl rfl rfl rfl rfl rfl rfl rfl rfl Go.Vw.leL Go.Vw.sc Go.Vw.sc
     | exact Go.Vw.stepMake (mm := true) (en := Go.Vw.eI .i64) (z := 0) Go.Vw.tt rfl rfl rfl rfl rfl rfl rfl rfl rfl rfl rfl rfl Go.Vw.leL Go.Vw.sc Go.Vw.sc
     | exact Go.Vw.stepMake (mm := false) (en := Go.Vw.eI .i64) (z := 0) Go.Vw.tt rfl rfl rfl rfl rfl rfl rfl rfl rfl rfl rfl rfl Go.Vw.leL Go.Vw.sc Go.Vw.sc
     | exact Go.Vw.stepQ false Go.Vw.tt Go.Vw.stt rfl rfl rfl Go.Vw.sc
     | exact Go.Vw.stepB2S rfl rfl rfl rfl rfl rfl rfl rfl rfl rfl rfl (Go.Vw.LeD.refl _)
     | exact Go.Vw.stepB2SO rfl rfl rfl rfl rfl rfl rfl rfl rfl rfl rfl rfl
     | exact Go.Vw.stepS2B rfl rfl rfl rfl rfl rfl rfl rfl rfl rfl rfl
     | exact Go.Vw.stepB2S rfl rfl rfl rfl rfl rfl rfl rfl rfl rfl rfl (Go.Vw.LeD.lit rfl (Go.Vw.LeR.cons rfl Go.Vw.leL Go.Vw.LeR.nil))
     | exact Go.Vw.stepM0 Go.Vw.tt rfl (Go.Vw.m_q true rfl rfl Go.Vw.sc)
     | exact Go.Vw.gdLDT rfl rfl (by omega)
     | exact Go.Vw.gdLDF rfl rfl (by omega)
     | exact Go.Vw.gdLNT rfl rfl (by omega)
     | exact Go.Vw.gdLNF rfl rfl (by omega))
  | (show _ → awp _ _ _ _
     first
     | exact Go.Vw.awp_seq
     | exact Go.Vw.awp_region
     | exact Go.Vw.awp_block
     | exact Go.Vw.awp_condT rfl
     | exact Go.Vw.awp_condF rfl
     | exact Go.Vw.awp_skip
     | exact Go.Vw.awp_exit
     | exact Go.Vw.awp_ret
     | exact Go.Vw.cdDT rfl (by omega)
     | exact Go.Vw.cdDF rfl (by omega)
     | exact Go.Vw.cdNT rfl (by omega)
     | exact Go.Vw.cdNF rfl (by omega))
  | (show _ → andThen _ _ _ _
     first
     | exact Go.Vw.thenN
     | exact Go.Vw.thenX
     | exact Go.Vw.thenR)
  | (show _ → inBlock _ _ _ _
     first
     | exact Go.Vw.inN
     | exact Go.Vw.inX
     | exact Go.Vw.inY rfl
     | exact Go.Vw.inR)
  | (show _ → awpR _ _ _ _ _ _ _
     first
     | exact Go.Vw.stepRQ true Go.Vw.tt Go.Vw.stt rfl rfl rfl Go.Vw.sc rfl rfl
     | exact Go.Vw.awpR_nil
     | exact Go.Vw.stepROff Go.Vw.sff rfl rfl rfl
     | exact Go.Vw.stepRStore Go.Vw.tt rfl rfl rfl rfl rfl rfl rfl rfl rfl Go.Vw.leL Go.Vw.sc rfl rfl
     | exact Go.Vw.stepRStoreB Go.Vw.tt rfl rfl rfl rfl rfl rfl rfl rfl rfl rfl rfl rfl
     | exact Go.Vw.stepRAlloc Go.Vw.tt rfl rfl rfl rfl rfl rfl rfl rfl rfl
     | exact Go.Vw.stepRLitF Go.Vw.tt rfl Go.Vw.tt rfl rfl rfl
     | exact Go.Vw.stepRAppF Go.Vw.tt rfl rfl rfl rfl rfl rfl rfl rfl rfl rfl rfl (Go.Vw.LeD.refl _) (Go.Vw.LeD.lit rfl (Go.Vw.LeR.cons rfl Go.Vw.leL Go.Vw.LeR.nil)) Go.Vw.sc
     | exact Go.Vw.stepRAppF Go.Vw.tt rfl rfl rfl rfl rfl rfl rfl rfl rfl rfl rfl (Go.Vw.LeD.refl _) (Go.Vw.LeD.lit rfl Go.Vw.LeR.nil) Go.Vw.sc
     | exact Go.Vw.stepRLit Go.Vw.tt rfl rfl rfl rfl
     | exact Go.Vw.stepRQ false Go.Vw.tt Go.Vw.stt rfl rfl rfl Go.Vw.sc rfl rfl
     | exact Go.Vw.stepRB2S rfl rfl rfl rfl rfl rfl rfl rfl rfl rfl rfl (Go.Vw.LeD.refl _)
     | exact Go.Vw.stepRB2SO rfl rfl rfl rfl rfl rfl rfl rfl rfl rfl rfl rfl
     | exact Go.Vw.stepRS2B rfl rfl rfl rfl rfl rfl rfl rfl rfl rfl rfl
     | exact Go.Vw.stepRB2S rfl rfl rfl rfl rfl rfl rfl rfl rfl rfl rfl (Go.Vw.LeD.lit rfl (Go.Vw.LeR.cons rfl Go.Vw.leL Go.Vw.LeR.nil))
     | exact Go.Vw.gdRDT rfl rfl (by omega)
     | exact Go.Vw.gdRDF rfl rfl (by omega)
     | exact Go.Vw.gdRNT rfl rfl (by omega)
     | exact Go.Vw.gdRNF rfl rfl (by omega))
  | fail) : P := h k
theorem wS {G1 G2 P : Prop} (k1 : G1) (k2 : G2) (h : G1 → G2 → P := by
  first
  | (show _ → _ → awpL _ _ _ _ _
     first
     | exact Go.Vw.gdLD rfl rfl
     | exact Go.Vw.gdLN rfl rfl
     | exact Go.Vw.gdL rfl rfl)
  | (show _ → _ → awp _ _ _ _
     first
     | exact Go.Vw.awp_condD rfl
     | exact Go.Vw.awp_condN rfl
     | exact Go.Vw.awp_cond rfl)
  | (show _ → _ → awpR _ _ _ _ _ _ _
     first
     | exact Go.Vw.gdRD rfl rfl
     | exact Go.Vw.gdRN rfl rfl
     | exact Go.Vw.gdR rfl rfl)
  | fail) : P := h k1 k2
section
variable {ex : Bool} {X : Ctx} {all : Array Oper} {Q : Exit → St → Prop} {s : St} {o : Oper} {pre rest : List Oper} {c : Call} {caps : List V} {ds' : List D} {r : D}
theorem cl2 {Pg : Program} {s1 : St} {d : Tmp} {f : FuncId} (hcf : calleeIs s o.op f = true) (hop : o.op = .call c) (hc : calleeOf s c = some (f, caps)) (hdst : o.dst = some d) (h : CallE X all s s1 o f ds' r) (hP : X.P = Pg) : Ret Pg f ds' (· = r) → awpL X all rest Q (s1.put (some d) (.d r)) → awpL X all (o :: rest) Q s := fun hr k => cl f hcf hop hc hdst h (hP ▸ hr) k
theorem clR2 {Pg : Program} {d : Tmp} {f : FuncId} (hcf : calleeIs s o.op f = true) (hop : o.op = .call c) (hc : calleeOf s c = some (f, caps)) (hdst : o.dst = some d) (h : CallM X all s o f ds' r) (hd : dstOk X.N (some d) = true) (hP : X.P = Pg) : Ret Pg f ds' (· = r) → awpR ex X all pre rest Q (s.put (some d) (.d r)) → awpR ex X all (o :: pre) rest Q s := fun hr k => clR f hcf hop hc hdst h hd (hP ▸ hr) k
end
def FrI (_ : List Nat) : Prop := True
theorem clB2 {Pg : Program} {X : Ctx} {all : Array Oper} {s : St} {o : Oper} {Q : Exit → St → Prop} {rest : List Oper} {c : Call} {caps : List V} {d : Tmp} {f : FuncId} {fr : List Nat} {xs : List V} {bs bs' : List (Nat × Blk)} {y : V} (hcf : calleeIs s o.op f = true) (hop : o.op = .call c) (hc : calleeOf s c = some (f, caps)) (hdst : o.dst = some d) (hg : gd all s o = some true) (hd : dstOk X.N (some d) = true) (hcov : (keysOk bs (V.refsL xs) && coverR bs bs && keysIn bs fr bs' && freshOk X.K bs fr) = true) (le : LeVT (c.args.toList.map s.opd ++ caps) xs) (hB : AllB s bs) (hP : X.P = Pg) : FrI fr → RetB Pg f xs (lookB bs) y (lookB bs') → awpL X all rest Q (((s.subs fr).over bs').put (some d) y) → awpL X all (o :: rest) Q s := fun _ hr k => clB f fr (hP ▸ hr) hcf hop hc hdst hg hd hcov le hB k
theorem wC {Pg : Program} {f : FuncId} {ds' : List D} {r : D} {G P : Prop} (hr : Ret Pg f ds' (· = r)) (k : G) (h : Ret Pg f ds' (· = r) → G → P := by
  first
  | (show _ → _ → awpL _ _ _ _ _
     first
     | exact Go.Vw.cl2 Go.Vw.tt rfl rfl rfl (Go.Vw.callE_of rfl (Go.Vw.callM_plain rfl rfl rfl Go.Vw.tt rfl Go.Vw.leT)) rfl
     | exact Go.Vw.cl2 Go.Vw.tt rfl rfl rfl (Go.Vw.callE_of rfl (Go.Vw.callM_lent true rfl rfl rfl Go.Vw.ff Go.Vw.tt rfl Go.Vw.leT rfl Go.Vw.sc)) rfl
     | exact Go.Vw.cl2 Go.Vw.tt rfl rfl rfl (Go.Vw.callE_of rfl (Go.Vw.callM_lent false rfl rfl rfl Go.Vw.ff Go.Vw.tt rfl Go.Vw.leT rfl Go.Vw.sc)) rfl
     | exact Go.Vw.cl2 Go.Vw.tt rfl rfl rfl (Go.Vw.callE_frz rfl rfl Go.Vw.tt rfl rfl (Go.Vw.callE_of rfl (Go.Vw.callM_plain rfl rfl rfl Go.Vw.tt rfl Go.Vw.leT))) rfl
     | exact Go.Vw.cl2 Go.Vw.tt rfl rfl rfl (Go.Vw.callE_frz rfl rfl Go.Vw.tt rfl rfl (Go.Vw.callE_frz rfl rfl Go.Vw.tt rfl rfl (Go.Vw.callE_of rfl (Go.Vw.callM_plain rfl rfl rfl Go.Vw.tt rfl Go.Vw.leT)))) rfl
     | exact Go.Vw.cl2 (Nat.beq_refl _) rfl rfl rfl (Go.Vw.callE_of rfl (Go.Vw.callM_plain rfl rfl rfl Go.Vw.tt rfl Go.Vw.leT)) rfl
     | exact Go.Vw.cl2 (Nat.beq_refl _) rfl rfl rfl (Go.Vw.callE_of rfl (Go.Vw.callM_lent true rfl rfl rfl Go.Vw.ff Go.Vw.tt rfl Go.Vw.leT rfl Go.Vw.sc)) rfl
     | exact Go.Vw.cl2 (Nat.beq_refl _) rfl rfl rfl (Go.Vw.callE_of rfl (Go.Vw.callM_lent false rfl rfl rfl Go.Vw.ff Go.Vw.tt rfl Go.Vw.leT rfl Go.Vw.sc)) rfl
     | exact Go.Vw.cl2 (Nat.beq_refl _) rfl rfl rfl (Go.Vw.callE_frz rfl rfl Go.Vw.tt rfl rfl (Go.Vw.callE_of rfl (Go.Vw.callM_plain rfl rfl rfl Go.Vw.tt rfl Go.Vw.leT))) rfl
     | exact Go.Vw.cl2 (Nat.beq_refl _) rfl rfl rfl (Go.Vw.callE_frz rfl rfl Go.Vw.tt rfl rfl (Go.Vw.callE_frz rfl rfl Go.Vw.tt rfl rfl (Go.Vw.callE_of rfl (Go.Vw.callM_plain rfl rfl rfl Go.Vw.tt rfl Go.Vw.leT)))) rfl)
  | (show _ → _ → awpR _ _ _ _ _ _ _
     first
     | exact Go.Vw.clR2 Go.Vw.tt rfl rfl rfl (Go.Vw.callM_plain rfl rfl rfl Go.Vw.tt rfl Go.Vw.leT) rfl rfl
     | exact Go.Vw.clR2 Go.Vw.tt rfl rfl rfl (Go.Vw.callM_lent true rfl rfl rfl Go.Vw.ff Go.Vw.tt rfl Go.Vw.leT rfl Go.Vw.sc) rfl rfl
     | exact Go.Vw.clR2 Go.Vw.tt rfl rfl rfl (Go.Vw.callM_lent false rfl rfl rfl Go.Vw.ff Go.Vw.tt rfl Go.Vw.leT rfl Go.Vw.sc) rfl rfl
     | exact Go.Vw.clR2 (Nat.beq_refl _) rfl rfl rfl (Go.Vw.callM_plain rfl rfl rfl Go.Vw.tt rfl Go.Vw.leT) rfl rfl
     | exact Go.Vw.clR2 (Nat.beq_refl _) rfl rfl rfl (Go.Vw.callM_lent true rfl rfl rfl Go.Vw.ff Go.Vw.tt rfl Go.Vw.leT rfl Go.Vw.sc) rfl rfl
     | exact Go.Vw.clR2 (Nat.beq_refl _) rfl rfl rfl (Go.Vw.callM_lent false rfl rfl rfl Go.Vw.ff Go.Vw.tt rfl Go.Vw.leT rfl Go.Vw.sc) rfl rfl)
  | fail) : P := h hr k
theorem wD {Pg : Program} {f : FuncId} (fr : List Nat) {xs : List V} {bs bs' : List (Nat × Blk)} {y : V} {G P : Prop} (hr : RetB Pg f xs (lookB bs) y (lookB bs')) (k : G) (h : FrI fr → RetB Pg f xs (lookB bs) y (lookB bs') → G → P := by
  first
  | (show _ → _ → _ → awpL _ _ _ _ _
     first
     | exact Go.Vw.clB2 Go.Vw.tt rfl rfl rfl rfl rfl rfl Go.Vw.leVT Go.Vw.allB rfl
     | exact Go.Vw.clB2 (Nat.beq_refl _) rfl rfl rfl rfl rfl rfl Go.Vw.leVT Go.Vw.allB rfl)
  | fail) : P := h trivial hr k
theorem wB {T : TypeId → Option TyD} {fn : Func} {y : V} {bs' : List (Nat × Blk)} {e : Exit} {s : St} {G1 G2 : Prop} (k1 : G1) (k2 : G2) (h : G1 → G2 → retPostB T fn y bs' e s := by
  first
  | exact Go.Vw.finB rfl rfl
  | exact Go.Vw.finBT rfl rfl rfl
  | fail) : retPostB T fn y bs' e s := h k1 k2
end Go.Vw

/-
  The walk's words for panics. Conditions: as each rule says.
-/
namespace Go.Vw
theorem clP2 {Pg : Program} {X : Ctx} {all : Array Oper} {s : St} {o : Oper} {Q : Exit → St → Prop} {rest : List Oper} {c : Call} {caps : List V} {f : FuncId} {xs : List V} {bs : List (Nat × Blk)} {u : Value} (hcf : calleeIs s o.op f = true) (hop : o.op = .call c) (hc : calleeOf s c = some (f, caps)) (hg : gd all s o = some true) (hcov : (keysOk bs (V.refsL xs) && coverR bs bs) = true) (le : LeVT (c.args.toList.map s.opd ++ caps) xs) (hB : AllB s bs) (hP : X.P = Pg) : PanB Pg f xs (lookB bs) u → Q (.panic (thrown u)) (s.subs (bs.map (·.1))) → awpL X all (o :: rest) Q s := fun hr k => clP f (hP ▸ hr) hcf hop hc hg hcov le hB k
theorem wP {Pg : Program} {f : FuncId} {xs : List V} {bs : List (Nat × Blk)} {u : Value} {G P : Prop} (hr : PanB Pg f xs (lookB bs) u) (k : G) (h : PanB Pg f xs (lookB bs) u → G → P := by
  first
  | (show _ → _ → awpL _ _ _ _ _
     first
     | exact Go.Vw.clP2 Go.Vw.tt rfl rfl rfl rfl Go.Vw.leVT Go.Vw.allB rfl
     | exact Go.Vw.clP2 (Nat.beq_refl _) rfl rfl rfl rfl Go.Vw.leVT Go.Vw.allB rfl)
  | fail) : P := h hr k
theorem wX {G P : Prop} (k : G) (h : G → P := by
  first
  | (show _ → awpL _ _ _ _ _
     first
     | exact Go.Vw.stepIfc rfl rfl rfl rfl rfl rfl
     | exact Go.Vw.stepPanic rfl rfl rfl rfl
     | exact Go.Vw.stepDefer rfl rfl rfl rfl rfl rfl)
  | fail) : P := h k
theorem thenP {K : St → Prop} {Q : Exit → St → Prop} {c : List PanicEntry} {s : St} : Q (.panic c) s → andThen K Q (.panic c) s := fun h => h
theorem inP {id : Nat} {Q : Exit → St → Prop} {c : List PanicEntry} {s : St} : Q (.panic c) s → inBlock id Q (.panic c) s := fun h => h
theorem wE {G P : Prop} (k : G) (h : G → P := by
  first
  | exact Go.Vw.thenP
  | exact Go.Vw.inP
  | fail) : P := h k
theorem wO {T : TypeId → Option TyD} {fn : Func} {y : V} {bs' : List (Nat × Blk)} {e : Exit} {s : St} (h : retPostB T fn y bs' e s) : outPost T fn (.ret y bs') e s := h
theorem wQ {T : TypeId → Option TyD} {fn : Func} {u : Value} {s : St} (hd : s.dfs = []) : outPost T fn (.pan u) (.panic (thrown u)) s := ⟨rfl, hd⟩
theorem finBN {T : TypeId → Option TyD} {fn : Func} {bs' : List (Nat × Blk)} {s : St} (hd : s.dfs = []) (h : resAll T s fn.results.toList = some []) (hB : AllB s bs') : retPostB T fn (.tup []) bs' .normal s := ⟨hd, ⟨[], h, .inr ⟨by simp, [], rfl, LeVT.nil⟩⟩, hB⟩
theorem wF {T : TypeId → Option TyD} {fn : Func} {y : V} {bs' : List (Nat × Blk)} {s : St} {G : Prop} (k : G) (h : G → retPostB T fn y bs' .normal s := by
  first
  | exact Go.Vw.finBN rfl rfl
  | fail) : retPostB T fn y bs' .normal s := h k
theorem wR {G P : Prop} (k : G) (h : G → P := by
  first
  | (show _ → awp _ _ _ _
     first
     | exact Go.Vw.cdDT rfl (by with_reducible rfl)
     | exact Go.Vw.cdNF rfl (by with_reducible rfl)
     | exact Go.Vw.cdDT rfl (by with_reducible assumption)
     | exact Go.Vw.cdDF rfl (by with_reducible assumption)
     | exact Go.Vw.cdNT rfl (by with_reducible assumption)
     | exact Go.Vw.cdNF rfl (by with_reducible assumption)
     | exact Go.Vw.cdDF rfl (by decide)
     | exact Go.Vw.cdNT rfl (by decide))
  | (show _ → awpL _ _ _ _ _
     first
     | exact Go.Vw.gdLDT rfl rfl (by with_reducible rfl)
     | exact Go.Vw.gdLNF rfl rfl (by with_reducible rfl)
     | exact Go.Vw.gdLDT rfl rfl (by with_reducible assumption)
     | exact Go.Vw.gdLDF rfl rfl (by with_reducible assumption)
     | exact Go.Vw.gdLNT rfl rfl (by with_reducible assumption)
     | exact Go.Vw.gdLNF rfl rfl (by with_reducible assumption)
     | exact Go.Vw.gdLDF rfl rfl (by decide)
     | exact Go.Vw.gdLNT rfl rfl (by decide))
  | fail) : P := h k
/-! ## An array out of constants -/
def constsOf : List (Nat × Operand) → Option (List (Nat × Value))
  | [] => some []
  | (i, .const v) :: r => match constsOf r with | some l => some ((i, v) :: l) | none => none
  | _ :: _ => none
theorem constsOf_eval {a : Act} : ∀ {l : List (Nat × Operand)} {vs : List (Nat × Value)}, constsOf l = some vs → l.map (fun x => (x.1, a.eval x.2)) = vs
  | [], vs, h => by simp only [constsOf, Option.some.injEq] at h; subst h; rfl
  | (i, .const v) :: r, vs, h => by
    simp only [constsOf] at h
    split at h
    · rename_i l hl
      cases h
      simp only [List.map_cons, constsOf_eval hl]
      congr 2
    · cases h
  | (i, .tmp t) :: r, vs, h => by cases h
  | (i, .global t) :: r, vs, h => by cases h
  | (i, .func t) :: r, vs, h => by cases h
theorem stepBuildC {X : Ctx} {all : Array Oper} {Q : Exit → St → Prop} {s : St} {o : Oper} {rest : List Oper} {t : TypeId} {parts : Array (Nat × Operand)} {vs : List (Nat × Value)} {cells : Array Value} {d : Tmp} (ds : List D) (hop : o.op = .build t parts) (hc : constsOf parts.toList = some vs) (hb : X.P.built t vs = some cells) (he : cells.toList = ds.map D.val1) (hp : ds.all D.plain1 = true) (hdst : o.dst = some d) (hg : gd all s o = some true) (hd : dstOk X.N (some d) = true) (k : awpL X all rest Q (s.put (some d) (.d (.agg ds)))) : awpL X all (o :: rest) Q s := fun io F a w hs => by
  refine wpList_cons ?_
  have h1 : (parts.map fun (i, x) => (i, a.eval x)).toList = vs := by
    rw [Array.toList_map]; exact constsOf_eval hc
  have hr : (execOp a.eval o).run X.P w = .ok (.value (.agg cells)) w := by
    simp only [execOp, hop, Sem.run_bind, run_build w t _ cells (by rw [h1]; exact hb), Result.andThen_ok, Sem.run_pure]
  refine opWp_value (gd_sound (fun t _ => hs.tm t) hg) hr ?_
  rw [hdst]
  refine k io F _ w (hs.put (fun d' e => by cases e; exact dstOk_sound hd d rfl) ?_)
  simp only [VR]
  have hcl : cells = (ds.map D.val1).toArray := by rw [← he]
  rw [hcl]
  have := DR.ofVal (F := F) (w := w) (x := .agg ds) (by simpa only [D.plain] using hp)
  simpa only [D.val] using this
end Go.Vw

/-
  Contracts of functions of bytes and names. Conditions: none.
-/
set_option maxHeartbeats 8000000
namespace Go.Proofs.YtfnonogemgnlhaaDoor
open Go.Vw
attribute [local irreducible] awp awpL awpR

theorem formula_letter (c : UInt8) : Ret Tryd.prog 62 [bD c] (· = .bool (isLet c)) := by
  rw [isLet_nat]
  refine ret_of_awp tab Tryd.func62 rfl rfl (Nat.le_of_ble_eq_true rfl) (fun w0 F0 => ?_)
  repeat' (first | refine wG ?_ | refine wR ?_ | refine wS ?_ ?_ <;> intro _ | refine finG ?_)
  all_goals (refine congrArg D.bool ?_; rw [Bool.eq_iff_iff]; simp; omega)
theorem table_letter (c : UInt8) : Ret Tryd.prog 56 [bD c] (· = .bool (isLet c)) := by
  rw [isLet_nat]
  refine ret_of_awp tab Tryd.func56 rfl rfl (Nat.le_of_ble_eq_true rfl) (fun w0 F0 => ?_)
  repeat' (first | refine wG ?_ | refine wR ?_ | refine wS ?_ ?_ <;> intro _ | refine finG ?_)
  all_goals (refine congrArg D.bool ?_; rw [Bool.eq_iff_iff]; simp; omega)
theorem ref08_Letter (c : UInt8) : Ret Tryd.prog 57 [bD c] (· = .bool (isLet c)) := by
  rw [isLet_nat]
  refine ret_of_awp tab Tryd.func57 rfl rfl (Nat.le_of_ble_eq_true rfl) (fun w0 F0 => ?_)
  repeat' (first | refine wG ?_ | refine wR ?_ | refine wS ?_ ?_ <;> intro _ | refine finG ?_)
  all_goals (refine congrArg D.bool ?_; rw [Bool.eq_iff_iff]; simp; omega)
theorem formula_digit (c : UInt8) : Ret Tryd.prog 64 [bD c] (· = .bool (isDig c)) := by
  rw [isDig_nat]
  refine ret_of_awp tab Tryd.func64 rfl rfl (Nat.le_of_ble_eq_true rfl) (fun w0 F0 => ?_)
  repeat' (first | refine wG ?_ | refine wR ?_ | refine wS ?_ ?_ <;> intro _ | refine finG ?_)
  all_goals (refine congrArg D.bool ?_; rw [Bool.eq_iff_iff]; simp; omega)
theorem formula_inner (c : UInt8) : Ret Tryd.prog 63 [bD c] (· = .bool (isInn c)) := by
  have h1 := formula_letter c
  have h2 := formula_digit c
  rw [isInn_nat]
  generalize isLet c = a at *
  generalize isDig c = b at *
  cases a <;> cases b
  all_goals
    refine ret_of_awp tab Tryd.func63 rfl rfl (Nat.le_of_ble_eq_true rfl) (fun w0 F0 => ?_)
    repeat' (first | refine wG ?_ | refine wC h1 ?_ | refine wC h2 ?_ | refine wR ?_ | refine wS ?_ ?_ <;> intro _ | refine finG ?_)
    all_goals first | rfl | (refine congrArg D.bool ?_; rw [Bool.eq_iff_iff]; simp; omega) | (refine congrArg D.bool ?_; simp)
theorem ref08_Inner (c : UInt8) : Ret Tryd.prog 58 [bD c] (· = .bool (isInn c)) := by
  have h1 := ref08_Letter c
  rw [isInn_nat, isDig_nat]
  generalize isLet c = a at *
  cases a
  all_goals
    refine ret_of_awp tab Tryd.func58 rfl rfl (Nat.le_of_ble_eq_true rfl) (fun w0 F0 => ?_)
    repeat' (first | refine wG ?_ | refine wC h1 ?_ | refine wR ?_ | refine wS ?_ ?_ <;> intro _ | refine finG ?_)
    all_goals first | rfl | (refine congrArg D.bool ?_; rw [Bool.eq_iff_iff]; simp; omega) | (refine congrArg D.bool ?_; simp)
theorem next_blank (c : UInt8) : Ret Tryd.prog 61 [bD c] (· = .bool (isBl c)) := by
  rw [isBl_nat]
  refine ret_of_awp tab Tryd.func61 rfl rfl (Nat.le_of_ble_eq_true rfl) (fun w0 F0 => ?_)
  repeat' (first | refine wG ?_ | refine wR ?_ | refine wS ?_ ?_ <;> intro _ | refine finG ?_)
  rfl
end Go.Proofs.YtfnonogemgnlhaaDoor

/-
  Contracts of the two that tell names. Conditions: none.
-/
set_option maxHeartbeats 8000000
namespace Go.Proofs.YtfnonogemgnlhaaDoor
open Go.Vw
attribute [local irreducible] awp awpL awpR

theorem table_Name (s : List UInt8) : Ret Tryd.prog 30 [.str s] (· = .bool (isName s)) := by
  by_cases h1 : s = []
  · rw [name_bad (.inl h1)]
    subst h1
    refine ret_of_awp tab Tryd.func30 rfl rfl (Nat.le_of_ble_eq_true rfl) (fun w0 F0 => ?_)
    repeat' (first | refine wG ?_ | refine wR ?_ | refine wS ?_ ?_ <;> intro _ | refine finG ?_)
    rfl
  have l1 : 1 ≤ s.length := List.length_pos_iff.2 h1
  have tl := table_letter (s.getD 0 0)
  by_cases h2 : s.length ≤ 32
  case neg =>
    rw [name_bad (.inr (.inl (by omega)))]
    refine ret_of_awp tab Tryd.func30 rfl rfl (Nat.le_of_ble_eq_true rfl) (fun w0 F0 => ?_)
    repeat' (first | refine wG ?_ | refine wR ?_ | refine wS ?_ ?_ <;> intro _ | refine finG ?_)
    rfl
  by_cases h3 : isLet (s.getD 0 0) = true
  case neg =>
    have h3 := Bool.eq_false_iff.2 h3
    rw [name_bad (.inr (.inr (.inl h3)))]
    rw [h3] at tl
    refine ret_of_awp tab Tryd.func30 rfl rfl (Nat.le_of_ble_eq_true rfl) (fun w0 F0 => ?_)
    repeat' (first | refine wG ?_ | refine wC tl ?_ | refine wR ?_ | refine wS ?_ ?_ <;> intro _ | refine finG ?_)
    rfl
  rw [h3] at tl
  by_cases h4 : s = pwB
  · rw [name_bad (.inr (.inr (.inr h4)))]
    refine ret_of_awp tab Tryd.func30 rfl rfl (Nat.le_of_ble_eq_true rfl) (fun w0 F0 => ?_)
    repeat' (first | refine wG ?_ | refine wC tl ?_ | refine wR ?_ | refine wS ?_ ?_ <;> intro _ | refine finG ?_)
    · rfl
    · exact absurd h4 ‹¬ s = _›
  rw [name_good h1 h2 h3 h4]
  have hle := runE_le isInn (t := s) (i := 0) (Nat.zero_le _)
  have hin := fun j (h : j < runE isInn s 0) => runE_in isInn (t := s) (i := 0) (Nat.zero_le j) h
  have hst := fun h => runE_stop isInn (t := s) (i := 0) h
  generalize runE isInn s 0 = n at *
  have hlt := fun i => table_letter (s.getD i 0)
  refine ret_of_awp tab Tryd.func30 rfl rfl (Nat.le_of_ble_eq_true rfl) (fun w0 F0 => ?_)
  repeat' (first | refine wG ?_ | refine wC tl ?_ | refine wR ?_ | refine wS ?_ ?_ <;> intro _ | refine finG ?_)
  · exact absurd ‹s = _› h4
  refine awp_loop1 (fun (i : Nat) => ([(23, .d (.sl 1 eB 0 s)), (24, .d (.int .i64 s.length)), (25, .d (.int .i64 i))], [])) (fun i => i ≤ n) (fun i => n - i) 0 (by omega) ⟨rfl, rfl, rfl, rfl⟩ trivial (fun i hi => ?_)
  have c := hlt i
  clear hlt
  by_cases g : i < n
  · have q := hin i g
    rw [isInn_nat, isDig_nat] at q
    generalize isLet (s.getD i 0) = a at *
    have r := u8_rng (s.getD i 0)
    clear hin hst h3
    cases a
    · simp only [Bool.false_or, Bool.or_eq_true, Bool.and_eq_true, decide_eq_true_eq] at q
      repeat' (first | refine wG ?_ | refine wC c ?_ | refine wR ?_ | refine wS ?_ ?_ <;> intro _ | refine finG ?_)
      all_goals exact ⟨i + 1, by omega, by omega, ⟨rfl, rfl, iv (by omega), rfl⟩, trivial⟩
    · repeat' (first | refine wG ?_ | refine wC c ?_ | refine wR ?_ | refine wS ?_ ?_ <;> intro _ | refine finG ?_)
      all_goals exact ⟨i + 1, by omega, by omega, ⟨rfl, rfl, iv (by omega), rfl⟩, trivial⟩
  · have e : i = n := by omega
    subst e
    by_cases hn : i = s.length
    · rw [decide_eq_true hn]
      repeat' (first | refine wG ?_ | refine wR ?_ | refine wS ?_ ?_ <;> intro _ | refine finG ?_)
      rfl
    · rw [decide_eq_false hn]
      have q := hst (by omega)
      rw [isInn_nat, isDig_nat] at q
      generalize isLet (s.getD i 0) = a at *
      have r := u8_rng (s.getD i 0)
      clear hin hst h3
      cases a
      · simp only [Bool.false_or, Bool.or_eq_false_iff, Bool.and_eq_false_iff, decide_eq_false_iff_not] at q
        repeat' (first | refine wG ?_ | refine wC c ?_ | refine wR ?_ | refine wS ?_ ?_ <;> intro _ | refine finG ?_)
        all_goals rfl
      · simp at q
theorem ref08_Name (s : List UInt8) : Ret Tryd.prog 31 [.str s] (· = .bool (isName s)) := by
  by_cases h1 : s = []
  · rw [name_bad (.inl h1)]
    subst h1
    refine ret_of_awp tab Tryd.func31 rfl rfl (Nat.le_of_ble_eq_true rfl) (fun w0 F0 => ?_)
    repeat' (first | refine wG ?_ | refine wR ?_ | refine wS ?_ ?_ <;> intro _ | refine finG ?_)
    rfl
  have l1 : 1 ≤ s.length := List.length_pos_iff.2 h1
  have tl := ref08_Letter (s.getD 0 0)
  by_cases h2 : s.length ≤ 32
  case neg =>
    rw [name_bad (.inr (.inl (by omega)))]
    refine ret_of_awp tab Tryd.func31 rfl rfl (Nat.le_of_ble_eq_true rfl) (fun w0 F0 => ?_)
    repeat' (first | refine wG ?_ | refine wR ?_ | refine wS ?_ ?_ <;> intro _ | refine finG ?_)
    rfl
  by_cases h3 : isLet (s.getD 0 0) = true
  case neg =>
    have h3 := Bool.eq_false_iff.2 h3
    rw [name_bad (.inr (.inr (.inl h3)))]
    rw [h3] at tl
    refine ret_of_awp tab Tryd.func31 rfl rfl (Nat.le_of_ble_eq_true rfl) (fun w0 F0 => ?_)
    repeat' (first | refine wG ?_ | refine wC tl ?_ | refine wR ?_ | refine wS ?_ ?_ <;> intro _ | refine finG ?_)
    rfl
  rw [h3] at tl
  by_cases h4 : s = pwB
  · rw [name_bad (.inr (.inr (.inr h4)))]
    refine ret_of_awp tab Tryd.func31 rfl rfl (Nat.le_of_ble_eq_true rfl) (fun w0 F0 => ?_)
    repeat' (first | refine wG ?_ | refine wC tl ?_ | refine wR ?_ | refine wS ?_ ?_ <;> intro _ | refine finG ?_)
    · rfl
    · exact absurd h4 ‹¬ s = _›
  rw [name_good h1 h2 h3 h4]
  have h0 := runE_step (p := isInn) (t := s) (i := 0) (by omega) (isLet_inn h3)
  have hge := runE_ge isInn s (0 + 1)
  have hle := runE_le isInn (t := s) (i := 0) (Nat.zero_le _)
  have hin := fun j (h : j < runE isInn s 0) => runE_in isInn (t := s) (i := 0) (Nat.zero_le j) h
  have hst := fun h => runE_stop isInn (t := s) (i := 0) h
  rw [h0] at hge
  generalize runE isInn s 0 = n at *
  have hlt := fun i => ref08_Inner (s.getD i 0)
  clear h0
  refine ret_of_awp tab Tryd.func31 rfl rfl (Nat.le_of_ble_eq_true rfl) (fun w0 F0 => ?_)
  repeat' (first | refine wG ?_ | refine wC tl ?_ | refine wR ?_ | refine wS ?_ ?_ <;> intro _ | refine finG ?_)
  · exact absurd ‹s = _› h4
  refine awp_loop1 (fun (i : Nat) => ([(0, .d (.str s)), (3, .d (.int .i64 i))], [])) (fun i => i ≤ n) (fun i => n - i) 1 (by omega) ⟨rfl, rfl, rfl⟩ trivial (fun i hi => ?_)
  have c := hlt i
  clear hlt
  by_cases g : i < n
  · rw [hin i g] at c
    clear hin hst h3
    repeat' (first | refine wG ?_ | refine wC c ?_ | refine wR ?_ | refine wS ?_ ?_ <;> intro _ | refine finG ?_)
    exact ⟨i + 1, by omega, by omega, ⟨rfl, iv (by omega), rfl⟩, trivial⟩
  · have e : i = n := by omega
    subst e
    by_cases hn : i = s.length
    · rw [decide_eq_true hn]
      repeat' (first | refine wG ?_ | refine wR ?_ | refine wS ?_ ?_ <;> intro _ | refine finG ?_)
      rfl
    · rw [decide_eq_false hn]
      rw [hst (by omega)] at c
      clear hin hst h3
      repeat' (first | refine wG ?_ | refine wC c ?_ | refine wR ?_ | refine wS ?_ ?_ <;> intro _ | refine finG ?_)
      rfl
end Go.Proofs.YtfnonogemgnlhaaDoor

/-
  The program's parser: places, words, the next word, errors. Conditions: as each says.
-/
set_option maxHeartbeats 8000000
namespace Go.Proofs.YtfnonogemgnlhaaDoor
open Go.Vw
attribute [local irreducible] awp awpL awpR

abbrev psB (t : List UInt8) (i j : Int) : Blk := .box 42 [.d (.str t), .d (.int .i64 i), .d (.int .i64 j)]
abbrev pW (t : List UInt8) (i : Nat) : List (Nat × Blk) := [(600, psB t i (wend t i))]
abbrev ftV (x : PErr) : Value := .iface 44 (D.val (.agg [.int .i64 x.1, .int .i64 x.2]))
theorem psEq {t : List UInt8} {i j j' : Int} (h : j = j') : some (psB t i j) = some (psB t i j') := by rw [h]
theorem parser_run (t : List UInt8) (i : Nat) (f0 j0 : Int) (p : UInt8 → Bool) (fid : FuncId) (hi : i ≤ t.length) (hl : t.length < 1000000000) (hf : ∀ c, Ret Tryd.prog fid [bD c] (· = .bool (p c))) : RetB Tryd.prog 60 [.ptr 600 0, .d (.int .i64 i), .d (.fn fid [])] (lookB [(600, psB t f0 j0)]) (.d (.int .i64 (runE p t i))) (lookB [(600, psB t f0 j0)]) := by
  have hge := runE_ge p t i
  have hle := runE_le p hi
  have hin := fun j (h : i ≤ j) (h2 : j < runE p t i) => runE_in p (t := t) h h2
  have hst := fun h => runE_stop p (t := t) (i := i) h
  generalize runE p t i = n at *
  refine retB_of_awp tab [600] Tryd.func60 rfl rfl rfl (Nat.le_of_ble_eq_true rfl) rfl ⟨Nat.le_refl _, trivial⟩ (fun w0 F0 A io0 => ?_)
  repeat' (first | refine wG ?_ | refine wR ?_ | refine wS ?_ ?_ <;> intro _ | refine wB ?_ ?_ | refine wF ?_)
  refine awp_loop1 (fun (a : Nat) => ([(0, .ptr 600 0), (1, .d (.int .i64 a)), (2, .d (.fn fid []))], [(600, psB t f0 j0)])) (fun a => i ≤ a ∧ a ≤ n) (fun a => n - a) i ⟨Nat.le_refl _, hge⟩ ⟨rfl, rfl, rfl, rfl⟩ ⟨rfl, trivial⟩ (fun a ha => ?_)
  have c := hf (t.getD a 0)
  clear hf
  by_cases g : a < n
  · rw [hin a ha.1 g] at c
    clear hin hst
    repeat' (first | refine wG ?_ | refine wC c ?_ | refine wR ?_ | refine wS ?_ ?_ <;> intro _ | refine wB ?_ ?_ | refine wF ?_)
    exact ⟨a + 1, by omega, by omega, ⟨rfl, iv (by omega), rfl, rfl⟩, rfl, trivial⟩
  · have e : a = n := by omega
    subst e
    by_cases hn : a = t.length
    · clear hin hst
      repeat' (first | refine wG ?_ | refine wR ?_ | refine wS ?_ ?_ <;> intro _ | refine wB ?_ ?_ | refine wF ?_)
      all_goals first | exact leVT | exact ⟨rfl, trivial⟩
    · rw [hst (by omega)] at c
      clear hin hst
      repeat' (first | refine wG ?_ | refine wC c ?_ | refine wR ?_ | refine wS ?_ ?_ <;> intro _ | refine wB ?_ ?_ | refine wF ?_)
      all_goals first | exact leVT | exact ⟨rfl, trivial⟩
theorem parser_next (t : List UInt8) (f0 : Int) (j : Nat) (hj : j ≤ t.length) (hl : t.length < 1000000000) : RetB Tryd.prog 35 [.ptr 600 0] (lookB [(600, psB t f0 j)]) (.tup []) (lookB (pW t (skp t j))) := by
  have r1 := parser_run t j f0 j isBl 61 hj hl next_blank
  have hk := runE_le isBl hj
  rw [show runE isBl t j = skp t j from rfl] at r1 hk
  generalize skp t j = i at *
  by_cases h : i < t.length
  · have l1 := formula_letter (t.getD i 0)
    have l2 := formula_digit (t.getD i 0)
    unfold pW wend
    rw [if_pos h]
    have r2 := parser_run t i i (min ((i : Int) + 1) t.length) isInn 63 (by omega) hl formula_inner
    have r3 := parser_run t i i (min ((i : Int) + 1) t.length) isDig 64 (by omega) hl formula_digit
    cases h1 : isLet (t.getD i 0) with
    | true =>
      rw [h1] at l1
      simp only [if_true]
      generalize runE isInn t i = n at *
      clear l2 r3 h1
      refine retB_of_awp tab [600] Tryd.func35 rfl rfl rfl (Nat.le_of_ble_eq_true rfl) rfl ⟨Nat.le_refl _, trivial⟩ (fun w0 F0 A io0 => ?_)
      repeat' (first | refine wG ?_ | refine wD [] r1 ?_ | refine wD [] r2 ?_ | refine wC l1 ?_ | refine rg 1 12 ?_ | refine rg 2 9 ?_ | refine rg 3 8 ?_ | refine wR ?_ | refine wS ?_ ?_ <;> intro _ | refine wB ?_ ?_ | refine wF ?_)
      all_goals first | exact leVT | exact ⟨rfl, trivial⟩
    | false =>
      rw [h1] at l1
      simp only [if_false, Bool.false_eq_true]
      cases h2 : isDig (t.getD i 0) with
      | true =>
        rw [h2] at l2
        simp only [if_true]
        generalize runE isDig t i = n at *
        clear r2 h1 h2
        refine retB_of_awp tab [600] Tryd.func35 rfl rfl rfl (Nat.le_of_ble_eq_true rfl) rfl ⟨Nat.le_refl _, trivial⟩ (fun w0 F0 A io0 => ?_)
        repeat' (first | refine wG ?_ | refine wD [] r1 ?_ | refine wD [] r3 ?_ | refine wC l1 ?_ | refine wC l2 ?_ | refine rg 1 12 ?_ | refine rg 2 9 ?_ | refine rg 3 8 ?_ | refine wR ?_ | refine wS ?_ ?_ <;> intro _ | refine wB ?_ ?_ | refine wF ?_)
        all_goals first | exact leVT | exact ⟨rfl, trivial⟩
      | false =>
        rw [h2] at l2
        simp only [if_false, Bool.false_eq_true]
        clear r2 r3 h1 h2
        refine retB_of_awp tab [600] Tryd.func35 rfl rfl rfl (Nat.le_of_ble_eq_true rfl) rfl ⟨Nat.le_refl _, trivial⟩ (fun w0 F0 A io0 => ?_)
        repeat' (first | refine wG ?_ | refine wD [] r1 ?_ | refine wC l1 ?_ | refine wC l2 ?_ | refine rg 1 12 ?_ | refine rg 2 9 ?_ | refine rg 3 8 ?_ | refine wR ?_ | refine wS ?_ ?_ <;> intro _ | refine wB ?_ ?_ | refine wF ?_)
        all_goals first | exact leVT | exact ⟨psEq (by omega), trivial⟩
  · have e : i = t.length := by omega
    unfold pW wend
    rw [if_neg h]
    subst e
    refine retB_of_awp tab [600] Tryd.func35 rfl rfl rfl (Nat.le_of_ble_eq_true rfl) rfl ⟨Nat.le_refl _, trivial⟩ (fun w0 F0 A io0 => ?_)
    repeat' (first | refine wG ?_ | refine wD [] r1 ?_ | refine rg 1 12 ?_ | refine rg 2 9 ?_ | refine rg 3 8 ?_ | refine wR ?_ | refine wS ?_ ?_ <;> intro _ | refine wB ?_ ?_ | refine wF ?_)
    all_goals first | exact leVT | exact ⟨psEq (by omega), trivial⟩
end Go.Proofs.YtfnonogemgnlhaaDoor

/-
  The program's parser: the word, errors, and what has to come now. Conditions: the place is a word's.
-/
set_option maxHeartbeats 8000000
namespace Go.Proofs.YtfnonogemgnlhaaDoor
open Go.Vw
attribute [local irreducible] awp awpL awpR

theorem wend_ge {t : List UInt8} {i : Nat} (h : i ≤ t.length) : i ≤ wend t i := by
  by_cases e : i < t.length
  · exact Nat.le_of_lt (wend_gt e)
  · unfold wend; rw [if_neg e]; omega
theorem parser_word (t : List UInt8) (i : Nat) (h : i ≤ t.length) : RetB Tryd.prog 39 [.ptr 600 0] (lookB (pW t i)) (.d (.str (word t i))) (lookB (pW t i)) := by
  have h1 := wend_ge h
  have h2 := wend_le t i
  unfold word pW
  generalize wend t i = j at *
  refine retB_of_awp tab [600] Tryd.func39 rfl rfl rfl (Nat.le_of_ble_eq_true rfl) rfl ⟨Nat.le_refl _, trivial⟩ (fun w0 F0 A io0 => ?_)
  repeat' (first | refine wG ?_ | refine rg 1 12 ?_ | refine wR ?_ | refine wS ?_ ?_ <;> intro _ | refine wB ?_ ?_ | refine wF ?_)
  all_goals first | exact leVT | exact ⟨rfl, trivial⟩
theorem parser_fail (t : List UInt8) (i : Nat) (e : Int) : PanB Tryd.prog 40 [.ptr 600 0, .d (.int .i64 e)] (lookB (pW t i)) (ftV (i, e)) := by
  unfold pW
  refine panB_of_awp tab [600] Tryd.func40 rfl rfl (Nat.le_of_ble_eq_true rfl) (fun w0 F0 A io0 => ?_)
  repeat' (first | refine wX ?_ | refine wE ?_ | refine wG ?_ | refine wR ?_ | refine wS ?_ ?_ <;> intro _ | exact wQ rfl)
theorem parser_must (t : List UInt8) (c : UInt8) (i j : Nat) (hi : i ≤ t.length) (hl : t.length < 1000000000) (h : mustP t c i = .ok j) : RetB Tryd.prog 37 [.ptr 600 0, .d (.str [c])] (lookB (pW t i)) (.tup []) (lookB (pW t j)) := by
  obtain ⟨a1, a2, a3, a4⟩ := mustP_ok h
  have w := parser_word t i hi
  have n := parser_next t i (wend t i) (wend_le t i) hl
  rw [show skp t (wend t i) = j from a3.symm] at n
  rw [a4] at w
  clear h a3 a4 a1
  refine retB_of_awp tab [600] Tryd.func37 rfl rfl rfl (Nat.le_of_ble_eq_true rfl) rfl ⟨Nat.le_refl _, trivial⟩ (fun w0 F0 A io0 => ?_)
  repeat' (first | refine wG ?_ | refine wD [] w ?_ | refine wD [] n ?_ | refine wR ?_ | refine wS ?_ ?_ <;> intro _ | refine wB ?_ ?_ | refine wF ?_)
  all_goals first | exact leVT | exact ⟨rfl, trivial⟩
theorem parser_mustE (t : List UInt8) (c : UInt8) (i : Nat) (x : PErr) (hi : i ≤ t.length) (h : mustP t c i = .error x) : PanB Tryd.prog 37 [.ptr 600 0, .d (.str [c])] (lookB (pW t i)) (ftV x) := by
  obtain ⟨a1, a2⟩ := mustP_er h
  subst a1
  have w := parser_word t i hi
  have f := parser_fail t i 3
  generalize word t i = v at *
  clear h
  refine panB_of_awp tab [600] Tryd.func37 rfl rfl (Nat.le_of_ble_eq_true rfl) (fun w0 F0 A io0 => ?_)
  repeat' (first | refine wX ?_ | refine wE ?_ | refine wG ?_ | refine wP f ?_ | refine wD [] w ?_ | refine wR ?_ | refine wS ?_ ?_ <;> intro _ | exact wQ rfl)
theorem parser_name (t : List UInt8) (i j : Nat) (s : List UInt8) (hi : i ≤ t.length) (hl : t.length < 1000000000) (h : nameP t i = .ok (s, j)) : RetB Tryd.prog 36 [.ptr 600 0] (lookB (pW t i)) (.d (.str s)) (lookB (pW t j)) := by
  obtain ⟨a1, a2, a3, a4, a5⟩ := nameP_ok h
  have w := parser_word t i hi
  have n := parser_next t i (wend t i) (wend_le t i) hl
  rw [show skp t (wend t i) = j from a3.symm] at n
  rw [← a4] at w
  have m := table_Name s
  rw [a5] at m
  clear h a3 a4 a1 a5
  refine retB_of_awp tab [600] Tryd.func36 rfl rfl rfl (Nat.le_of_ble_eq_true rfl) rfl ⟨Nat.le_refl _, trivial⟩ (fun w0 F0 A io0 => ?_)
  repeat' (first | refine wG ?_ | refine wD [] w ?_ | refine wD [] n ?_ | refine wC m ?_ | refine wR ?_ | refine wS ?_ ?_ <;> intro _ | refine wB ?_ ?_ | refine wF ?_)
  all_goals first | exact leVT | exact ⟨rfl, trivial⟩
theorem parser_nameE (t : List UInt8) (i : Nat) (x : PErr) (hi : i ≤ t.length) (h : nameP t i = .error x) : PanB Tryd.prog 36 [.ptr 600 0] (lookB (pW t i)) (ftV x) := by
  obtain ⟨a1, a2⟩ := nameP_er h
  subst a1
  have w := parser_word t i hi
  have f := parser_fail t i 3
  have m := table_Name (word t i)
  rw [a2] at m
  generalize word t i = v at *
  clear h
  refine panB_of_awp tab [600] Tryd.func36 rfl rfl (Nat.le_of_ble_eq_true rfl) (fun w0 F0 A io0 => ?_)
  repeat' (first | refine wX ?_ | refine wE ?_ | refine wG ?_ | refine wP f ?_ | refine wD [] w ?_ | refine wC m ?_ | refine wR ?_ | refine wS ?_ ?_ <;> intro _ | exact wQ rfl)
theorem parser_number (t : List UInt8) (lo hi i j n : Nat) (hi' : i ≤ t.length) (hl : t.length < 1000000000) (hh : hi ≤ 9) (h : numP t lo hi i = .ok (n, j)) : RetB Tryd.prog 66 [.ptr 600 0, .d (.int .i64 lo), .d (.int .i64 hi)] (lookB (pW t i)) (.d (.int .i64 n)) (lookB (pW t j)) := by
  obtain ⟨a1, a2, a3, a4, a5, a6⟩ := numP_ok h
  have w := parser_word t i hi'
  have nx := parser_next t i (wend t i) (wend_le t i) hl
  rw [show skp t (wend t i) = j from a3.symm] at nx
  have d := formula_digit ((word t i).getD 0 0)
  unfold digP at a6
  split at a6
  case isFalse => cases a6
  rename_i hw
  rw [hw.2] at d
  have hq := hw.2
  rw [isDig_nat] at hq
  simp only [Bool.and_eq_true, decide_eq_true_eq] at hq
  have e1 := hw.1
  have e2 : ((word t i).getD 0 0).toNat = n + 48 := by
    have : ((word t i).getD 0 0).toNat - 48 = n := by simpa using a6
    omega
  generalize word t i = v at *
  have e3 : (v.getD (nat_lit 0) 0).toNat = n + 48 := e2
  clear h a3 a1 a6 hw
  refine retB_of_awp tab [600] Tryd.func66 rfl rfl rfl (Nat.le_of_ble_eq_true rfl) rfl ⟨Nat.le_refl _, trivial⟩ (fun w0 F0 A io0 => ?_)
  repeat' (first | refine wG ?_ | refine wD [] w ?_ | refine wD [] nx ?_ | refine wC d ?_ | refine wR ?_ | refine wS ?_ ?_ <;> intro _ | refine wB ?_ ?_ | refine wF ?_)
  all_goals first | exact leVT | exact ⟨rfl, trivial⟩
theorem parser_numberE (t : List UInt8) (lo hi i : Nat) (x : PErr) (hi' : i ≤ t.length) (hh : hi ≤ 9) (h : numP t lo hi i = .error x) : PanB Tryd.prog 66 [.ptr 600 0, .d (.int .i64 lo), .d (.int .i64 hi)] (lookB (pW t i)) (ftV x) := by
  have w := parser_word t i hi'
  have d := formula_digit ((word t i).getD 0 0)
  unfold numP at h
  split at h
  · rename_i hd
    cases h
    have f := parser_fail t i 3
    unfold digP at hd
    split at hd
    · cases hd
    · rename_i hw
      generalize word t i = v at *
      by_cases e1 : v.length = 1
      · have e2 : isDig (v.getD 0 0) = false := Bool.eq_false_iff.2 fun e => hw ⟨e1, e⟩
        rw [e2] at d
        clear hw
        refine panB_of_awp tab [600] Tryd.func66 rfl rfl (Nat.le_of_ble_eq_true rfl) (fun w0 F0 A io0 => ?_)
        repeat' (first | refine wX ?_ | refine wE ?_ | refine wG ?_ | refine wP f ?_ | refine wD [] w ?_ | refine wC d ?_ | refine wR ?_ | refine wS ?_ ?_ <;> intro _ | exact wQ rfl)
      · clear hw d
        refine panB_of_awp tab [600] Tryd.func66 rfl rfl (Nat.le_of_ble_eq_true rfl) (fun w0 F0 A io0 => ?_)
        repeat' (first | refine wX ?_ | refine wE ?_ | refine wG ?_ | refine wP f ?_ | refine wD [] w ?_ | refine wR ?_ | refine wS ?_ ?_ <;> intro _ | exact wQ rfl)
  · rename_i m hd
    have hm := digP_lt hd
    split at h
    · cases h
    · rename_i hr
      cases h
      have f := parser_fail t i 1
      unfold digP at hd
      split at hd
      · rename_i hw
        have e1 := hw.1
        rw [hw.2] at d
        have hq := hw.2
        rw [isDig_nat] at hq
        simp only [Bool.and_eq_true, decide_eq_true_eq] at hq
        have e2 : ((word t i).getD 0 0).toNat = m + 48 := by
          have : ((word t i).getD 0 0).toNat - 48 = m := by simpa using hd
          omega
        generalize word t i = v at *
        have e3 : (v.getD (nat_lit 0) 0).toNat = m + 48 := e2
        clear hw hd
        refine panB_of_awp tab [600] Tryd.func66 rfl rfl (Nat.le_of_ble_eq_true rfl) (fun w0 F0 A io0 => ?_)
        repeat' (first | refine wX ?_ | refine wE ?_ | refine wG ?_ | refine wP f ?_ | refine wD [] w ?_ | refine wC d ?_ | refine wR ?_ | refine wS ?_ ?_ <;> intro _ | exact wQ rfl)
      · cases hd
end Go.Proofs.YtfnonogemgnlhaaDoor

/-
  The library's contracts that the formulas need, laid at this program (made by the kit's lay-plain.mjs). Conditions: none.
-/
namespace Go.Proofs
open Go.Shelf
def Tryd.lays156_ren : Go.Shelf.Ren := ⟨fun | 156 => 51 | 165 => 71 | 166 => 72 | 169 => 73 | 240 => 77 | 241 => 78 | 276 => 83 | 277 => 84 | n => n, fun | 31 => 71 | 9 => 9 | 3 => 3 | 4 => 4 | 0 => 0 | 20 => 20 | 72 => 79 | 76 => 83 | 70 => 77 | 37 => 73 | 75 => 82 | 127 => 88 | 164 => 95 | 5 => 5 | 80 => 50 | n => n, fun | n => n⟩
theorem Tryd.lays156 : Go.Proofs.Lays.n156 Tryd.prog Tryd.lays156_ren := {
  mixed := by kernel_rfl
  f156 := Tryd.func51.trans (congrArg some (by kernel_rfl))
  f165 := Tryd.func71.trans (congrArg some (by kernel_rfl))
  f166 := Tryd.func72.trans (congrArg some (by kernel_rfl))
  f169 := Tryd.func73.trans (congrArg some (by kernel_rfl))
  f240 := Tryd.func77.trans (congrArg some (by kernel_rfl))
  f241 := Tryd.func78.trans (congrArg some (by kernel_rfl))
  f276 := Tryd.func83.trans (congrArg some (by kernel_rfl))
  f277 := Tryd.func84.trans (congrArg some (by kernel_rfl))
  t0 := Tryd.underlying0
  a0 := Tryd.isAgg0
  z0 := Tryd.sizeOf0
  v0 := Tryd.zeroValue0
  t3 := Tryd.underlying3
  a3 := Tryd.isAgg3
  z3 := Tryd.sizeOf3
  v3 := Tryd.zeroValue3
  t4 := Tryd.underlying4
  a4 := Tryd.isAgg4
  z4 := Tryd.sizeOf4
  v4 := Tryd.zeroValue4
  t9 := Tryd.underlying9
  a9 := Tryd.isAgg9
  z9 := Tryd.sizeOf9
  v9 := Tryd.zeroValue9
  t20 := Tryd.underlying20
  a20 := Tryd.isAgg20
  z20 := Tryd.sizeOf20
  v20 := Tryd.zeroValue20
  t31 := Tryd.underlying71
  a31 := Tryd.isAgg71
  z31 := Tryd.sizeOf71
  v31 := Tryd.zeroValue71
  t37 := Tryd.underlying73
  a37 := Tryd.isAgg73
  z37 := Tryd.sizeOf73
  v37 := Tryd.zeroValue73
  t70 := Tryd.underlying77
  a70 := Tryd.isAgg77
  z70 := Tryd.sizeOf77
  v70 := Tryd.zeroValue77
  t72 := Tryd.underlying79
  a72 := Tryd.isAgg79
  z72 := Tryd.sizeOf79
  v72 := Tryd.zeroValue79
  t75 := Tryd.underlying82
  a75 := Tryd.isAgg82
  z75 := Tryd.sizeOf82
  v75 := Tryd.zeroValue82
  t76 := Tryd.underlying83
  a76 := Tryd.isAgg83
  z76 := Tryd.sizeOf83
  v76 := Tryd.zeroValue83
  t127 := Tryd.underlying88
  a127 := Tryd.isAgg88
  z127 := Tryd.sizeOf88
  v127 := Tryd.zeroValue88
  t164 := Tryd.underlying95
  a164 := Tryd.isAgg95
  z164 := Tryd.sizeOf95
  v164 := Tryd.zeroValue95 }
theorem Tryd.Builder_Extra_156 : Builder.Extra Tryd.prog Tryd.lays156_ren := {
  sizeBuilder := by kernel_rfl
  liesBuilder := by kernel_rfl
  t5 := Tryd.underlying5
  a5 := Tryd.isAgg5
  z5 := Tryd.sizeOf5
  v5 := Tryd.zeroValue5
  infoByte := by kernel_rfl
  cellsByte := by kernel_rfl
  sizeByte := by kernel_rfl
  neB5 := by decide }
def Tryd.lays171_ren : Go.Shelf.Ren := ⟨fun | 171 => 47 | 243 => 70 | 246 => 76 | 283 => 79 | 284 => 80 | 285 => 81 | 286 => 82 | 129 => 86 | 317 => 85 | 318 => 87 | 319 => 88 | 320 => 89 | 337 => 90 | 338 => 91 | n => n, fun | 3 => 3 | 9 => 9 | 2 => 2 | 4 => 4 | 171 => 89 | 0 => 0 | 53 => 90 | 37 => 73 | 5 => 5 | 173 => 93 | 212 => 99 | 51 => 100 | 20 => 20 | 213 => 101 | 46 => 103 | 232 => 106 | 233 => 107 | n => n, fun | 17 => 0 | 18 => 2 | 19 => 3 | n => n⟩
theorem Tryd.lays171 : Go.Proofs.Lays.n171 Tryd.prog Tryd.lays171_ren := {
  mixed := by kernel_rfl
  f129 := Tryd.func86.trans (congrArg some (by kernel_rfl))
  f171 := Tryd.func47.trans (congrArg some (by kernel_rfl))
  f243 := Tryd.func70.trans (congrArg some (by kernel_rfl))
  f246 := Tryd.func76.trans (congrArg some (by kernel_rfl))
  f283 := Tryd.func79.trans (congrArg some (by kernel_rfl))
  f284 := Tryd.func80.trans (congrArg some (by kernel_rfl))
  f285 := Tryd.func81.trans (congrArg some (by kernel_rfl))
  f286 := Tryd.func82.trans (congrArg some (by kernel_rfl))
  f317 := Tryd.func85.trans (congrArg some (by kernel_rfl))
  f318 := Tryd.func87.trans (congrArg some (by kernel_rfl))
  f319 := Tryd.func88.trans (congrArg some (by kernel_rfl))
  f320 := Tryd.func89.trans (congrArg some (by kernel_rfl))
  f337 := Tryd.func90.trans (congrArg some (by kernel_rfl))
  f338 := Tryd.func91.trans (congrArg some (by kernel_rfl))
  t0 := Tryd.underlying0
  a0 := Tryd.isAgg0
  z0 := Tryd.sizeOf0
  v0 := Tryd.zeroValue0
  t2 := Tryd.underlying2
  a2 := Tryd.isAgg2
  z2 := Tryd.sizeOf2
  v2 := Tryd.zeroValue2
  t3 := Tryd.underlying3
  a3 := Tryd.isAgg3
  z3 := Tryd.sizeOf3
  v3 := Tryd.zeroValue3
  t4 := Tryd.underlying4
  a4 := Tryd.isAgg4
  z4 := Tryd.sizeOf4
  v4 := Tryd.zeroValue4
  t5 := Tryd.underlying5
  a5 := Tryd.isAgg5
  z5 := Tryd.sizeOf5
  v5 := Tryd.zeroValue5
  t9 := Tryd.underlying9
  a9 := Tryd.isAgg9
  z9 := Tryd.sizeOf9
  v9 := Tryd.zeroValue9
  t20 := Tryd.underlying20
  a20 := Tryd.isAgg20
  z20 := Tryd.sizeOf20
  v20 := Tryd.zeroValue20
  t37 := Tryd.underlying73
  a37 := Tryd.isAgg73
  z37 := Tryd.sizeOf73
  v37 := Tryd.zeroValue73
  t46 := Tryd.underlying103
  a46 := Tryd.isAgg103
  z46 := Tryd.sizeOf103
  v46 := Tryd.zeroValue103
  t51 := Tryd.underlying100
  a51 := Tryd.isAgg100
  z51 := Tryd.sizeOf100
  v51 := Tryd.zeroValue100
  t53 := Tryd.underlying90
  a53 := Tryd.isAgg90
  z53 := Tryd.sizeOf90
  v53 := Tryd.zeroValue90
  t171 := Tryd.underlying89
  a171 := Tryd.isAgg89
  z171 := Tryd.sizeOf89
  v171 := Tryd.zeroValue89
  t173 := Tryd.underlying93
  a173 := Tryd.isAgg93
  z173 := Tryd.sizeOf93
  v173 := Tryd.zeroValue93
  t212 := Tryd.underlying99
  a212 := Tryd.isAgg99
  z212 := Tryd.sizeOf99
  v212 := Tryd.zeroValue99
  t213 := Tryd.underlying101
  a213 := Tryd.isAgg101
  z213 := Tryd.sizeOf101
  t232 := Tryd.underlying106
  a232 := Tryd.isAgg106
  z232 := Tryd.sizeOf106
  v232 := Tryd.zeroValue106
  t233 := Tryd.underlying107
  a233 := Tryd.isAgg107
  z233 := Tryd.sizeOf107
  v233 := Tryd.zeroValue107
  g17 := by kernel_rfl
  g18 := by kernel_rfl
  g19 := by kernel_rfl }
def Tryd.growN_ren : Go.Shelf.Ren := ⟨fun | 4 => 74 | n => n, fun | 22 => 23 | 25 => 38 | 3 => 3 | 4 => 4 | 9 => 9 | 20 => 20 | 0 => 0 | n => n, fun | n => n⟩
theorem Tryd.growN : Go.Proofs.Lays8.n4 Tryd.prog Tryd.growN_ren := {
  mixed := by kernel_rfl
  f4 := ⟨Tryd.f74.name, by decide, Tryd.func74.trans (congrArg some (by kernel_rfl))⟩
  t0 := Tryd.underlying0
  a0 := Tryd.isAgg0
  z0 := Tryd.sizeOf0
  v0 := Tryd.zeroValue0
  t3 := Tryd.underlying3
  a3 := Tryd.isAgg3
  z3 := Tryd.sizeOf3
  v3 := Tryd.zeroValue3
  t4 := Tryd.underlying4
  a4 := Tryd.isAgg4
  z4 := Tryd.sizeOf4
  v4 := Tryd.zeroValue4
  t9 := Tryd.underlying9
  a9 := Tryd.isAgg9
  z9 := Tryd.sizeOf9
  v9 := Tryd.zeroValue9
  t20 := Tryd.underlying20
  a20 := Tryd.isAgg20
  z20 := Tryd.sizeOf20
  v20 := Tryd.zeroValue20
  t22 := Tryd.underlying23
  a22 := Tryd.isAgg23
  z22 := Tryd.sizeOf23
  v22 := Tryd.zeroValue23 }
end Go.Proofs

/-
  Contracts of the library's functions that the formulas call. Conditions: as each says.
-/
set_option maxHeartbeats 8000000
namespace Go.Proofs.YtfnonogemgnlhaaDoor
open Go.Vw
attribute [local irreducible] awp awpL awpR

@[reducible] def sC (s : List UInt8) : List D := [.str s]
theorem strings_Join2 (a b sep : List UInt8) (ha : a.length ≤ 1000000) (hb : b.length ≤ 1000000) (hs : sep.length ≤ 1000000) : Ret Tryd.prog 51 [.sl 1 sC [] [a, b], .str sep] (· = .str (a ++ (sep ++ b))) := by
  refine ⟨⟨Tryd.f51, Tryd.func51, by rfl, by rfl⟩, fun F w vs hF hl hv => ?_⟩
  obtain ⟨v0, v1, rfl⟩ : ∃ v0 v1, vs = #[v0, v1] := by
    have h2 : vs.size = 2 := hl
    refine ⟨vs[0], vs[1], ?_⟩
    apply Array.ext
    · simpa using h2
    · intro i h1 h2
      have : i = 0 ∨ i = 1 := by simp at h2; omega
      rcases this with e | e <;> subst e <;> rfl
  rw [DRT_iff] at hv
  obtain ⟨u0, e0, h0⟩ := hv 0 _ rfl
  obtain ⟨u1, e1, h1⟩ := hv 1 _ rfl
  simp at e0 e1
  subst e0 e1
  simp only [DR] at h1
  subst h1
  simp only [DR] at h0
  rcases h0 with ⟨_, h⟩ | ⟨bk, off, cap, arr, ty, fz, e, hc, hbF, hh, hel⟩
  · cases h
  · subst e
    have hcell : ∀ (j : Nat) (x : List UInt8), [a, b][j]? = some x → arr[off + j]? = some (.string ⟨x.toArray⟩) := fun j x hj => by
      obtain ⟨_, q⟩ := hel j x hj
      rw [DRA_iff] at q
      obtain ⟨v, q1, _, q2⟩ := q 0 (.str x) rfl
      simp only [DR] at q2
      subst q2
      simpa using q1
    have key := Tryd.lays156
    have := Go.Proofs.Any.strings_Join Tryd.lays156 Tryd.Builder_Extra_156 bk off cap [⟨a.toArray⟩, ⟨b.toArray⟩] ⟨sep.toArray⟩ w (fun j x hj => by
        have hj2 : j = 0 ∨ j = 1 := by
          match j, hj with
          | 0, _ => exact .inl rfl
          | 1, _ => exact .inr rfl
        have := hcell j (if j = 0 then a else b) (by rcases hj2 with e | e <;> subst e <;> rfl)
        have hx : x = ⟨(if j = 0 then a else b).toArray⟩ := by rcases hj2 with e | e <;> subst e <;> (simp at hj; rw [← hj]; rfl)
        subst hx
        simp [World.cell?, hh, this]) (hF _ hbF) (by simp) hc (by simp [Lib.join]; omega)
    refine this.mono fun e w' ⟨he, hw⟩ => ⟨_, _, F, he, rfl, hw, fun _ h => h, fun _ h => .inl h, ?_⟩
    simp only [DR]
    simp [Lib.join]
theorem strconv_Itoa9 (n : Nat) (h : n ≤ 9) : Ret Tryd.prog 47 [.int .i64 n] (· = .str [dgB n]) := by
  refine ⟨⟨Tryd.f47, Tryd.func47, by rfl, by rfl⟩, fun F w vs hF hl hv => ?_⟩
  obtain ⟨v0, rfl⟩ : ∃ v0, vs = #[v0] := by
    have h2 : vs.size = 1 := hl
    refine ⟨vs[0], ?_⟩
    apply Array.ext
    · simpa using h2
    · intro i h1 h2
      have : i = 0 := by simp at h2; omega
      subst this; rfl
  rw [DRT_iff] at hv
  obtain ⟨u0, e0, h0⟩ := hv 0 _ rfl
  simp at e0
  subst e0
  simp only [DR] at h0
  subst h0
  have := Go.Proofs.Any.strconv_Itoa_small Tryd.lays171 n (by omega) w
  refine this.mono fun e w' ⟨he, hw⟩ => ⟨_, _, F, he, rfl, hw ▸ Go.RowKit.Below.refl _ _, fun _ h => h, fun _ h => .inl h, ?_⟩
  simp only [DR]
  rw [Lib.decDigits_one (by omega)]
  simp [dgB]
abbrev ndT : TypeId := 38
abbrev nO (n : Nat) : V := .own 500 0 n ndT 3
abbrev nB (l : List Nd) : Blk := .data ndT 3 ndC nd0 l
open Go.RowKit in
theorem nodes_Grow (n : Nat) (h0 : 0 < n) (hn : n ≤ 10000000) : RetB Tryd.prog 74 [.d .nils, .d (.int .i64 n)] (lookB []) (nO 0) (lookB [(500, nB [])]) := by
  obtain ⟨td, htd, ts⟩ : ∃ td, T ndT = some td ∧ td.size = 3 ∧ td.bytes ≤ 100 ∧ td.zero.cells.size = 3 := ⟨_, rfl, rfl, by decide, rfl⟩
  obtain ⟨hu, i0, hi0, hs, hb, hz⟩ := tab ndT td htd
  refine ⟨⟨Tryd.f74, Tryd.func74, by rfl, by rfl⟩, fun k hk => absurd rfl hk, fun k hk => absurd rfl hk, fun k hk => ?_, fun k b hk j hj => ?_, fun io F w vs hF hl hv hbs => ?_⟩
  · have : k = 500 := by simpa [V.refs] using hk
    subst this; simp [lookB]
  · have := (lookB_mem hk)
    simp at this
    rw [this.2] at hj
    simp [Blk.refs] at hj
  obtain ⟨v0, v1, rfl⟩ : ∃ v0 v1, vs = #[v0, v1] := by
    have h2 : vs.size = 2 := hl
    refine ⟨vs[0], vs[1], ?_⟩
    apply Array.ext
    · simpa using h2
    · intro i h1 h2
      have : i = 0 ∨ i = 1 := by simp at h2; omega
      rcases this with e | e <;> subst e <;> rfl
  rw [VRT_iff] at hv
  obtain ⟨u0, e0, g0⟩ := hv 0 _ rfl
  obtain ⟨u1, e1, g1⟩ := hv 1 _ rfl
  simp at e0 e1
  subst e0 e1
  simp only [VR, DR] at g0 g1
  subst g0 g1
  have call := Go.Proofs.Any8.slices_Grow_grow Tryd.growN i0 td.zero hi0 hz (by omega) none 0 0 n [] w (Nat.le_refl _) (by omega) (by have := Nat.mul_le_mul (show 0 + n ≤ 10000000 by omega) (show i0.bytes ≤ 100 by omega); omega) (by omega) (by simp) (fun _ => rfl) (fun a h => by cases h)
  refine call.mono fun e w' ⟨he, hw⟩ => ?_
  generalize hcap : grownCap w (0 + n) 0 (Tryd.growN_ren.t 25) = cap at he hw
  have hge : n ≤ cap := by rw [← hcap]; have := grownCap_ge w (0 + n) 0 (Tryd.growN_ren.t 25); omega
  have hle : cap ≤ maxLen := by rw [← hcap]; exact grownCap_le_maxLen w (0 + n) 0 _ (by unfold maxLen; omega)
  generalize hA : (([] : List Value).toArray ++ Builtin.zeroCells td.zero.cells (0 + n - 0) ++ Builtin.zeroCells td.zero.cells (cap - (0 + n))) = A at hw
  have hAs : A.size = cap * 3 := by
    rw [← hA]
    simp only [Array.size_append, size_zeroCells, ts.2.2, List.size_toArray, List.length_nil]
    omega
  subst hw
  have hbw : Below w.heap.size w (w.drew.alloc (.cells A (Tryd.growN_ren.t 25))) := ((Below.refl _ _).drew).alloc (Nat.le_refl _) _
  have hnew := heap_alloc_new w.drew (.cells A (Tryd.growN_ren.t 25) (0, 0))
  refine ⟨_, updio io 500 (some w.heap.size), F, he, ⟨hbw.os, hbw.tape, hbw.output, hbw.size, fun b hb _ => hbw.block b hb, shapes_of_below hbw⟩, fun _ h => h, fun b h => ⟨Nat.lt_of_lt_of_le (hF b h) hbw.size, .inl h⟩, fun k hk => absurd rfl hk, ?_, ?_⟩
  · simp only [VR]
    exact .inr ⟨w.heap.size, cap, A, updio_same _ _ _, by simp, Nat.zero_le _, by omega, hnew, by rw [hAs]; omega, by simp [lnO, lookB, Blk.ln]⟩
  · refine ⟨fun k b hk => ?_, fun k k' b h1 h2 e1 e2 => ?_⟩
    · have := lookB_mem hk
      simp at this
      obtain ⟨rfl, rfl⟩ := this
      simp only [BR]
      exact .inr ⟨w.heap.size, A, updio_same _ _ _, fun h => by have := hF _ h; omega, .inr (Nat.le_refl _), hnew, fun i a hi => by simp at hi⟩
    · obtain ⟨b1, q1⟩ := Option.ne_none_iff_exists'.1 h1
      obtain ⟨b2, q2⟩ := Option.ne_none_iff_exists'.1 h2
      have := lookB_mem q1
      have := lookB_mem q2
      simp_all
@[reducible] def nlC (l : List Nd) : List D := [ndsD l]
abbrev nlD (L : List (List Nd)) : D := .sl 1 nlC [] L
theorem take_flat {L : List (List Nd)} {i : Nat} (h : i < L.length) : (L.take (i + 1)).flatten = (L.take i).flatten ++ L.getD i [] := by
  rw [List.take_add_one, List.flatten_append, List.getD_eq_getElem?_getD, List.getElem?_eq_getElem h]; simp
theorem flat_le (L : List (List Nd)) (i : Nat) : (L.take i).flatten.length ≤ L.flatten.length := by
  conv => rhs; rw [← List.take_append_drop i L, List.flatten_append, List.length_append]
  omega
theorem ownN {n n' : Nat} (h : n = n') : nO n = nO n' := by rw [h]
theorem nodes_Concat (L : List (List Nd)) (h0 : 0 < L.flatten.length) (hn : L.flatten.length ≤ 10000000) (hl : L.length ≤ 1000) : Ret Tryd.prog 67 [nlD L] (· = ndsD L.flatten) := by
  obtain ⟨E, hE⟩ : ∃ E : Nat → List Nd, ∀ i, E i = (L.take i).flatten := ⟨fun i => (L.take i).flatten, fun _ => rfl⟩
  have e0 : E 0 = [] := by rw [hE]; rfl
  have eS : ∀ i, i < L.length → E (i + 1) = E i ++ L.getD i [] := fun i hi => by rw [hE, hE]; exact take_flat hi
  have eL : ∀ i, (E i).length ≤ 10000000 := fun i => by rw [hE]; exact Nat.le_trans (flat_le L i) hn
  have eN : L.flatten = E L.length := by rw [hE, List.take_of_length_le (Nat.le_refl _)]
  rw [eN] at h0 ⊢
  have gr := nodes_Grow (E L.length).length h0 (eL _)
  clear hE eN hn
  refine ret_of_awp tab Tryd.func67 rfl rfl (Nat.le_of_ble_eq_true rfl) (fun w0 F0 => ?_)
  repeat' (first | refine wG ?_ | refine wR ?_ | refine wS ?_ ?_ <;> intro _ | refine finG ?_)
  refine awp_loop1 (fun (i : Nat) => ([(0, .d (nlD L)), (3, .d (.int .i64 (E i).length)), (9, .d (nlD L)), (10, .d (.int .i64 L.length)), (11, .d (.int .i64 i))], [])) (fun i => i ≤ L.length) (fun i => L.length - i) 0 (by omega) ⟨rfl, (by rw [e0]; rfl), rfl, rfl, rfl, rfl⟩ trivial (fun i hi => ?_)
  have hel := eL i
  by_cases g : i < L.length
  · have st := eS i g
    have hel2 := eL (i + 1)
    have sl : (E (i + 1)).length = (E i).length + (L.getD i []).length := by rw [st, List.length_append]
    clear eS eL
    repeat' (first | refine wG ?_ | refine wR ?_ | refine wS ?_ ?_ <;> intro _ | refine finG ?_)
    exact ⟨i + 1, by omega, by omega, ⟨rfl, iv (by omega), rfl, rfl, iv (by omega), rfl⟩, trivial⟩
  · have e : i = L.length := by omega
    subst e
    repeat' (first | refine wG ?_ | refine wD [500] gr ?_ | refine wR ?_ | refine wS ?_ ?_ <;> intro _ | refine finG ?_)
    refine awp_loop1 (fun (i : Nat) => ([(6, nO (E i).length), (25, .d (nlD L)), (26, .d (.int .i64 L.length)), (27, .d (.int .i64 i))], [(500, nB (E i))])) (fun i => i ≤ L.length) (fun i => L.length - i) 0 (by omega) ⟨ownN (by rw [e0]; rfl), rfl, rfl, rfl, rfl⟩ ⟨by rw [e0]; rfl, trivial⟩ (fun i hi => ?_)
    have hel := eL i
    by_cases g : i < L.length
    · have st := eS i g
      have hel2 := eL (i + 1)
      have sl : (E (i + 1)).length = (E i).length + (L.getD i []).length := by rw [st, List.length_append]
      clear eS eL
      repeat' (first | refine wG ?_ | refine wR ?_ | refine wS ?_ ?_ <;> intro _ | refine finG ?_)
      exact ⟨i + 1, by omega, by omega, ⟨ownN (by rw [st]), rfl, rfl, iv (by omega), rfl⟩, by rw [st]; rfl, trivial⟩
    · have e : i = L.length := by omega
      subst e
      clear eS eL
      repeat' (first | refine wG ?_ | refine wR ?_ | refine wS ?_ ?_ <;> intro _ | refine finG ?_)
      rfl
end Go.Proofs.YtfnonogemgnlhaaDoor

/-
  The same reading with lists cut behind 65 nodes: what the program does. Conditions: none.
-/
namespace Go.Vw

inductive Rc (t : List UInt8) : Kd → Nat → Pos (List Nd) → Prop where
  | levE {r i x} (h : r < 3) (h1 : Rc t (.lev (r + 1)) i (.error x)) : Rc t (.lev r) i (.error x)
  | levO {r i e j o} (h : r < 3) (h1 : Rc t (.lev (r + 1)) i (.ok (e, j))) (h2 : Rc t (.bin r e) j o) : Rc t (.lev r) i o
  | raiE {i x} (h1 : Rc t .pri i (.error x)) : Rc t (.lev 3) i (.error x)
  | raiO {i e j o} (h1 : Rc t .pri i (.ok (e, j))) (h2 : Rc t (.rai e) j o) : Rc t (.lev 3) i o
  | bin0 {r e i} (h : opOf r (word t i) = none) : Rc t (.bin r e) i (.ok (e, i))
  | binE {r e i op x} (h : opOf r (word t i) = some op) (h1 : Rc t (.lev (r + 1)) (nxt t i) (.error x)) : Rc t (.bin r e) i (.error x)
  | binO {r e i op e' j o} (h : opOf r (word t i) = some op) (h1 : Rc t (.lev (r + 1)) (nxt t i) (.ok (e', j))) (h2 : Rc t (.bin r (((op, [], (0 : Int)) :: (e ++ e')).take 65)) j o) : Rc t (.bin r e) i o
  | rai0 {e i} (h : word t i ≠ [94]) : Rc t (.rai e) i (.ok (e, i))
  | raiX {e i x} (h : word t i = [94]) (h1 : numP t 1 6 (nxt t i) = .error x) : Rc t (.rai e) i (.error x)
  | raiN {e i n j o} (h : word t i = [94]) (h1 : numP t 1 6 (nxt t i) = .ok (n, j)) (h2 : Rc t (.rai (((10 : Int), [], (n : Int)) :: e)) j o) : Rc t (.rai e) i o
  | atom {i} (h : word t i ≠ [40]) : Rc t .pri i (atomP t i)
  | brE {i x} (h : word t i = [40]) (h1 : Rc t (.lev 0) (nxt t i) (.error x)) : Rc t .pri i (.error x)
  | brX {i e j x} (h : word t i = [40]) (h1 : Rc t (.lev 0) (nxt t i) (.ok (e, j))) (h2 : mustP t 41 j = .error x) : Rc t .pri i (.error x)
  | brO {i e j k} (h : word t i = [40]) (h1 : Rc t (.lev 0) (nxt t i) (.ok (e, j))) (h2 : mustP t 41 j = .ok k) : Rc t .pri i (.ok (e, k))

def GoesC (t : List UInt8) (k : Kd) (i : Nat) : Pos (List Nd) → Prop
  | .error x => ErrIn t i x
  | .ok (e, j) => At t j ∧ i ≤ j ∧ e.length ≤ k.pre + (j - i) ∧ 1 ≤ e.length ∧ (k.cons = true → i < j)
theorem Rc.goes {t : List UInt8} {k : Kd} {i : Nat} {o : Pos (List Nd)} (h : Rc t k i o) : At t i → 1 ≤ k.pre ∨ k.cons = true → GoesC t k i o := by
  have key : ∀ {k : Kd} {i : Nat} {o : Pos (List Nd)}, Rc t k i o → At t i → (1 ≤ k.pre ∨ k.cons = true) → (∀ x, o = .error x → ErrIn t i x) ∧ (∀ e j, o = .ok (e, j) → At t j ∧ i ≤ j ∧ e.length ≤ k.pre + (j - i) ∧ 1 ≤ e.length ∧ (k.cons = true → i < j)) := by
    intro k i o h
    induction h with
    | levE h h1 ih => exact fun hi _ => ⟨fun x hx => (ih hi (.inr rfl)).1 x hx, fun e j h => by cases h⟩
    | raiE h1 ih => exact fun hi _ => ⟨fun x hx => (ih hi (.inr rfl)).1 x hx, fun e j h => by cases h⟩
    | @levO r i e j o h h1 h2 ih1 ih2 =>
      intro hi _
      obtain ⟨a1, a2, a3, a4, a5⟩ := (ih1 hi (.inr rfl)).2 _ _ rfl
      have b := ih2 a1 (.inl a4)
      have a5 := a5 rfl
      refine ⟨fun x hx => (b.1 x hx).mono a2, fun e2 k he => ?_⟩
      obtain ⟨b1, b2, b3, b4, b5⟩ := b.2 _ _ he
      simp only [Kd.pre] at a3 b3 ⊢
      exact ⟨b1, by omega, by omega, b4, fun _ => by omega⟩
    | @raiO i e j o h1 h2 ih1 ih2 =>
      intro hi _
      obtain ⟨a1, a2, a3, a4, a5⟩ := (ih1 hi (.inr rfl)).2 _ _ rfl
      have b := ih2 a1 (.inl a4)
      have a5 := a5 rfl
      refine ⟨fun x hx => (b.1 x hx).mono a2, fun e2 k he => ?_⟩
      obtain ⟨b1, b2, b3, b4, b5⟩ := b.2 _ _ he
      simp only [Kd.pre] at a3 b3 ⊢
      exact ⟨b1, by omega, by omega, b4, fun _ => by omega⟩
    | bin0 h =>
      intro hi hp
      refine ⟨fun x hx => by (cases hx), fun e j he => ?_⟩
      cases he
      exact ⟨hi, Nat.le_refl _, by simp [Kd.pre], hp.resolve_right (by simp [Kd.cons]), fun h => by cases h⟩
    | rai0 h =>
      intro hi hp
      refine ⟨fun x hx => by (cases hx), fun e j he => ?_⟩
      cases he
      exact ⟨hi, Nat.le_refl _, by simp [Kd.pre], hp.resolve_right (by simp [Kd.cons]), fun h => by cases h⟩
    | @binE r e i op x h h1 ih => exact fun hi _ => ⟨fun y hy => ((ih (at_nxt t i) (.inr rfl)).1 y hy).mono (nxt_ge hi.le), fun e j h => by cases h⟩
    | @binO r e i op e' j o h h1 h2 ih1 ih2 =>
      intro hi hp
      have h0 := nxt_gt (opOf_lt h)
      obtain ⟨a1, a2, a3, a4, a5⟩ := (ih1 (at_nxt t i) (.inr rfl)).2 _ _ rfl
      have b := ih2 a1 (.inl (by simp only [Kd.pre, List.length_take, List.length_cons]; omega))
      refine ⟨fun x hx => (b.1 x hx).mono (by omega), fun e2 k he => ?_⟩
      obtain ⟨b1, b2, b3, b4, b5⟩ := b.2 _ _ he
      simp only [Kd.pre, List.length_take, List.length_cons, List.length_append] at a3 b3 ⊢
      exact ⟨b1, by omega, by omega, b4, fun h => by cases h⟩
    | @raiX e i x h h1 =>
      intro hi _
      refine ⟨fun y hy => ?_, fun e j h => by cases h⟩
      cases hy
      rcases numP_er h1 with q | q <;> subst q <;> exact ((at_nxt t i).err (by simp)).mono (nxt_ge hi.le)
    | @raiN e i n j o h h1 h2 ih =>
      intro hi hp
      have h0 := nxt_gt (lt_of_word (t := t) (i := i) (by rw [h]; simp))
      have a := numP_ok h1
      have b := ih a.1 (.inl (by simp [Kd.pre]))
      refine ⟨fun x hx => (b.1 x hx).mono (by omega), fun e2 k he => ?_⟩
      obtain ⟨b1, b2, b3, b4, b5⟩ := b.2 _ _ he
      simp only [Kd.pre, List.length_cons] at b3 ⊢
      exact ⟨b1, by omega, by omega, b4, fun h => by cases h⟩
    | @atom i h =>
      intro hi _
      refine ⟨fun x hx => atomP_er hi hx, fun e j he => ?_⟩
      have := atomP_ok he
      exact ⟨this.1, by omega, by simp only [Kd.pre]; omega, by omega, fun _ => by omega⟩
    | @brE i x h h1 ih => exact fun hi _ => ⟨fun y hy => ((ih (at_nxt t i) (.inr rfl)).1 y hy).mono (nxt_ge hi.le), fun e j h => by cases h⟩
    | @brX i e j x h h1 h2 ih =>
      intro hi _
      obtain ⟨a1, a2, a3, a4, a5⟩ := (ih (at_nxt t i) (.inr rfl)).2 _ _ rfl
      refine ⟨fun y hy => ?_, fun e j h => by cases h⟩
      cases hy
      have := (mustP_er h2).1
      subst this
      exact (a1.err (.inl rfl)).mono (Nat.le_trans (nxt_ge hi.le) a2)
    | @brO i e j k h h1 h2 ih =>
      intro hi _
      obtain ⟨a1, a2, a3, a4, a5⟩ := (ih (at_nxt t i) (.inr rfl)).2 _ _ rfl
      have b := mustP_ok h2
      have c := nxt_ge (t := t) hi.le
      have a5 := a5 rfl
      refine ⟨fun x hx => by (cases hx), fun e2 j2 he => ?_⟩
      cases he
      simp only [Kd.pre] at a3 ⊢
      exact ⟨b.1, by omega, by omega, a4, fun _ => by omega⟩
  intro hi hp
  have := key h hi hp
  cases o with
  | error x => exact this.1 x rfl
  | ok p => exact this.2 p.1 p.2 rfl

def SimL (e e' : List Nd) : Prop := e' = e ∨ (64 < e'.length ∧ e'.length ≤ e.length)
theorem SimL.refl (e : List Nd) : SimL e e := .inl rfl
theorem SimL.bin {a a' b b' : List Nd} (n : Nd) (ha : SimL a a') (hb : SimL b b') : SimL (n :: (a ++ b)) ((n :: (a' ++ b')).take 65) := by
  by_cases h : (n :: (a' ++ b')).length ≤ 65
  · rw [List.take_of_length_le h]
    rcases ha with rfl | ha
    · rcases hb with rfl | hb
      · exact .inl rfl
      · exfalso; simp at h; omega
    · exfalso; simp at h; omega
  · refine .inr ?_
    have : a'.length + b'.length ≤ a.length + b.length := by
      rcases ha with rfl | ha <;> rcases hb with rfl | hb <;> omega
    simp at h ⊢; omega
theorem SimL.cons {a a' : List Nd} (n : Nd) (ha : SimL a a') : SimL (n :: a) (n :: a') := by
  rcases ha with rfl | ha
  · exact .inl rfl
  · exact .inr (by simp; omega)
/-! ## The sign of an operation, found one by one -/
def sgW (k : Nat) : List UInt8 := match k with | 5 => [43] | 6 => [45] | 7 => [58] | 8 => [42] | 9 => [47] | _ => []
def opA (r : Nat) (w : List UInt8) : Nat → Int
  | 0 => 0
  | k + 1 => if sgW k ≠ [] ∧ sgW k = w ∧ rk k = r then k else opA r w k
theorem opA_none {r : Nat} {w : List UInt8} (h1 : w ≠ [43]) (h2 : w ≠ [45]) (h3 : w ≠ [58]) (h4 : w ≠ [42]) (h5 : w ≠ [47]) : ∀ k, opA r w k = 0
  | 0 => rfl
  | k + 1 => by
    rw [opA, if_neg, opA_none h1 h2 h3 h4 h5 k]
    intro ⟨g1, g2, _⟩
    unfold sgW at g1 g2
    split at g1 <;> first | (exact g1 rfl) | (simp only at g2; exact absurd g2.symm (by assumption))
theorem opA_eq {r : Nat} (hr : r < 3) (w : List UInt8) : opA r w 10 = (opOf r w).getD 0 := by
  have hr : r = 0 ∨ r = 1 ∨ r = 2 := by omega
  by_cases h1 : w = [43]
  · subst h1; rcases hr with e | e | e <;> subst e <;> decide
  by_cases h2 : w = [45]
  · subst h2; rcases hr with e | e | e <;> subst e <;> decide
  by_cases h3 : w = [58]
  · subst h3; rcases hr with e | e | e <;> subst e <;> decide
  by_cases h4 : w = [42]
  · subst h4; rcases hr with e | e | e <;> subst e <;> decide
  by_cases h5 : w = [47]
  · subst h5; rcases hr with e | e | e <;> subst e <;> decide
  rw [opA_none h1 h2 h3 h4 h5]
  unfold opOf
  rw [if_neg h1, if_neg h2, if_neg h4, if_neg h5, if_neg h3]
  split <;> (try split) <;> rfl
end Go.Vw
