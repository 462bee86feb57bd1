/-
  Contracts of functions of the program, and the layer that they are walked with: VM VN VQ VO. Conditions: as each says.
-/
import Derived.Laws.IdiomStrings
import Derived.KernelRfl
import Derived.Test.YtoppaphffnojdaaGreatA02
set_option linter.unnecessarySimpa false
/-
  States with named slots, loops; entering and leaving a function. Conditions: the table of types is the program's.
-/
set_option linter.unusedSimpArgs false
set_option linter.unusedVariables false
set_option linter.unusedSectionVars false
namespace Go.Vw
open Go.RowKit

mutual
def V.keys : V → List Nat
  | .own k _ _ _ _ => [k]
  | .agg cs => V.keysL cs
  | .tup cs => V.keysL cs
  | .fn _ cs => V.keysL cs
  | _ => []
def V.keysL : List V → List Nat
  | [] => []
  | x :: xs => V.keys x ++ V.keysL xs
end

section
variable {io : Nat → Option Nat} {ln ln' : Nat → Nat} {F : Nat → Prop} {w : World}
mutual
theorem VR.restrict : ∀ (x : V) (v : Value), (∀ k ∈ x.keys, ln k ≤ ln' k) → VR ⟨io, ln⟩ F w x v → VR ⟨io, ln'⟩ F w x v
  | .d x, v, _, h => by simp only [VR] at h ⊢; exact h
  | .own k o n ty sz, v, hk, h => by
      simp only [VR] at h ⊢
      rcases h with h | ⟨b, cap, arr, h1, h2, h3, h4, h5, h6, h7⟩
      · exact .inl h
      · exact .inr ⟨b, cap, arr, h1, h2, h3, h4, h5, h6, Nat.le_trans h7 (hk k (by simp [V.keys]))⟩
  | .ptr k off, v, _, h => by simp only [VR] at h ⊢; exact h
  | .eptr k sz i f, v, _, h => by simp only [VR] at h ⊢; exact h
  | .agg cs, v, hk, h => by simp only [VR] at h ⊢; obtain ⟨a, e, l, h⟩ := h; exact ⟨a, e, l, VRA.restrict cs _ _ (by simpa only [V.keys] using hk) h⟩
  | .tup cs, v, hk, h => by simp only [VR] at h ⊢; obtain ⟨a, e, l, h⟩ := h; exact ⟨a, e, l, VRT.restrict cs _ _ (by simpa only [V.keys] using hk) h⟩
  | .fn f cs, v, hk, h => by simp only [VR] at h ⊢; obtain ⟨a, e, l, h⟩ := h; exact ⟨a, e, l, VRA.restrict cs _ _ (by simpa only [V.keys] using hk) h⟩
theorem VRA.restrict : ∀ (xs : List V) (g : Nat → Option Value) (off : Nat), (∀ k ∈ V.keysL xs, ln k ≤ ln' k) → VRA ⟨io, ln⟩ F w g off xs → VRA ⟨io, ln'⟩ F w g off xs
  | [], _, _, _, _ => by simp only [VRA]
  | x :: xs, g, off, hk, h => by
      simp only [V.keysL, List.mem_append] at hk
      simp only [VRA] at h ⊢
      obtain ⟨⟨v, e, h0, h1⟩, h2⟩ := h
      exact ⟨⟨v, e, h0, VR.restrict x v (fun k h => hk k (.inl h)) h1⟩, VRA.restrict xs _ _ (fun k h => hk k (.inr h)) h2⟩
theorem VRT.restrict : ∀ (xs : List V) (g : Nat → Option Value) (off : Nat), (∀ k ∈ V.keysL xs, ln k ≤ ln' k) → VRT ⟨io, ln⟩ F w g off xs → VRT ⟨io, ln'⟩ F w g off xs
  | [], _, _, _, _ => by simp only [VRT]
  | x :: xs, g, off, hk, h => by
      simp only [V.keysL, List.mem_append] at hk
      simp only [VRT] at h ⊢
      obtain ⟨⟨v, e, h1⟩, h2⟩ := h
      exact ⟨⟨v, e, VR.restrict x v (fun k h => hk k (.inl h)) h1⟩, VRT.restrict xs _ _ (fun k h => hk k (.inr h)) h2⟩
end
end

def lookT : List (Nat × V) → Nat → V
  | [], _ => .d .undef
  | (k, v) :: r, t => bif Nat.beq t k then v else lookT r t
def lookB : List (Nat × Blk) → Nat → Option Blk
  | [], _ => none
  | (k, v) :: r, t => bif Nat.beq t k then some v else lookB r t
def St.of (ts : List (Nat × V)) (bs : List (Nat × Blk)) : St := { tmps := lookT ts, blk := lookB bs, dfs := [] }

def AllT (s : St) : List (Nat × V) → Prop
  | [] => s.dfs = []
  | (k, v) :: r => s.tmps k = v ∧ AllT s r
def AllB (s : St) : List (Nat × Blk) → Prop
  | [] => True
  | (k, v) :: r => s.blk k = some v ∧ AllB s r

theorem lookT_of {s : St} : ∀ {l : List (Nat × V)}, AllT s l → ∀ t, (lookT l t = s.tmps t ∧ ∃ p ∈ l, p.2 = s.tmps t) ∨ lookT l t = .d .undef
  | [], _, t => .inr rfl
  | (k, v) :: r, h, t => by
    simp only [lookT]
    cases hb : Nat.beq t k with
    | true => have := Nat.eq_of_beq_eq_true hb; subst this; left; exact ⟨by simp [h.1], (t, v), by simp, h.1.symm⟩
    | false =>
      rcases lookT_of h.2 t with ⟨h1, p, h2, h3⟩ | h1
      · left; exact ⟨by simpa using h1, p, by simp [h2], h3⟩
      · right; simpa using h1
theorem lookB_of {s : St} : ∀ {l : List (Nat × Blk)}, AllB s l → ∀ k b, lookB l k = some b → s.blk k = some b ∧ ∃ p ∈ l, p = (k, b)
  | [], _, k, b, h => by simp [lookB] at h
  | (k', v) :: r, h, k, b, hl => by
    simp only [lookB] at hl
    cases hb : Nat.beq k k' with
    | true => have := Nat.eq_of_beq_eq_true hb; subst this; rw [hb] at hl; simp at hl; exact ⟨by rw [← hl]; exact h.1, (k, v), by simp, by rw [hl]⟩
    | false =>
      rw [hb] at hl
      obtain ⟨h1, p, h2, h3⟩ := lookB_of h.2 k b (by simpa using hl)
      exact ⟨h1, p, by simp [h2], h3⟩

def hasKey (bs : List (Nat × Blk)) (k : Nat) : Bool := match lookB bs k with | some _ => true | none => false
def keysOk (bs : List (Nat × Blk)) : List Nat → Bool
  | [] => true
  | k :: r => hasKey bs k && keysOk bs r
def coverT (bs : List (Nat × Blk)) : List (Nat × V) → Bool
  | [] => true
  | (_, v) :: r => keysOk bs v.keys && coverT bs r
def coverB (bs : List (Nat × Blk)) : List (Nat × Blk) → Bool
  | [] => true
  | (_, .box _ cs) :: r => keysOk bs (V.keysL cs) && coverB bs r
  | (_, .data _ _ _ _ _) :: r => coverB bs r
  | (_, .hole _ _ _ _ _ _ v) :: r => keysOk bs v.keys && coverB bs r
  | (_, .vec _ cs) :: r => keysOk bs (V.keysL cs) && coverB bs r
theorem keysOk_spec {bs : List (Nat × Blk)} : ∀ {l : List Nat}, keysOk bs l = true → ∀ k ∈ l, hasKey bs k = true
  | [], _, k, h => by simp at h
  | a :: l, h, k, hk => by
    simp only [keysOk, Bool.and_eq_true] at h
    rcases List.mem_cons.1 hk with rfl | hk
    · exact h.1
    · exact keysOk_spec h.2 k hk
theorem coverT_spec {bs : List (Nat × Blk)} : ∀ {l : List (Nat × V)}, coverT bs l = true → ∀ p ∈ l, ∀ k ∈ p.2.keys, hasKey bs k = true
  | [], _, p, h => by simp at h
  | (a, v) :: l, h, p, hp => by
    simp only [coverT, Bool.and_eq_true] at h
    rcases List.mem_cons.1 hp with rfl | hp
    · exact keysOk_spec h.1
    · exact coverT_spec h.2 p hp
theorem coverB_spec {bs : List (Nat × Blk)} : ∀ {l : List (Nat × Blk)}, coverB bs l = true → ∀ p ∈ l, ∀ ty cs, p.2 = .box ty cs → ∀ k ∈ V.keysL cs, hasKey bs k = true
  | [], _, p, h => by simp at h
  | (a, .box ty cs) :: l, h, p, hp => by
    simp only [coverB, Bool.and_eq_true] at h
    rcases List.mem_cons.1 hp with rfl | hp
    · intro ty' cs' e; cases e; exact keysOk_spec h.1
    · exact coverB_spec h.2 p hp
  | (a, .data _ _ _ _ _) :: l, h, p, hp => by
    simp only [coverB] at h
    rcases List.mem_cons.1 hp with rfl | hp
    · intro ty' cs' e; cases e
    · exact coverB_spec h p hp
  | (a, .hole _ _ _ _ _ _ _) :: l, h, p, hp => by
    simp only [coverB, Bool.and_eq_true] at h
    rcases List.mem_cons.1 hp with rfl | hp
    · intro ty' cs' e; cases e
    · exact coverB_spec h.2 p hp
  | (a, .vec _ _) :: l, h, p, hp => by
    simp only [coverB, Bool.and_eq_true] at h
    rcases List.mem_cons.1 hp with rfl | hp
    · intro ty' cs' e; cases e
    · exact coverB_spec h.2 p hp
theorem coverV_spec {bs : List (Nat × Blk)} : ∀ {l : List (Nat × Blk)}, coverB bs l = true → ∀ p ∈ l, ∀ ty cs, p.2 = .vec ty cs → ∀ k ∈ V.keysL cs, hasKey bs k = true
  | [], _, p, h => by simp at h
  | (a, .box ty cs) :: l, h, p, hp => by
    simp only [coverB, Bool.and_eq_true] at h
    rcases List.mem_cons.1 hp with rfl | hp
    · intro ty' cs' e; cases e
    · exact coverV_spec h.2 p hp
  | (a, .vec ty cs) :: l, h, p, hp => by
    simp only [coverB, Bool.and_eq_true] at h
    rcases List.mem_cons.1 hp with rfl | hp
    · intro ty' cs' e; cases e; exact keysOk_spec h.1
    · exact coverV_spec h.2 p hp
  | (a, .data _ _ _ _ _) :: l, h, p, hp => by
    simp only [coverB] at h
    rcases List.mem_cons.1 hp with rfl | hp
    · intro ty' cs' e; cases e
    · exact coverV_spec h p hp
  | (a, .hole _ _ _ _ _ _ _) :: l, h, p, hp => by
    simp only [coverB, Bool.and_eq_true] at h
    rcases List.mem_cons.1 hp with rfl | hp
    · intro ty' cs' e; cases e
    · exact coverV_spec h.2 p hp
theorem coverH_spec {bs : List (Nat × Blk)} : ∀ {l : List (Nat × Blk)}, coverB bs l = true → ∀ p ∈ l, ∀ (ty : TypeId) (sz : Nat) (α : Type) (e : α → List D) (z : α) (l : List α) (i : Nat) (v : V), p.2 = .hole ty sz e z l i v → ∀ k ∈ v.keys, hasKey bs k = true
  | [], _, p, h => by simp at h
  | (a, .box ty cs) :: l, h, p, hp => by
    simp only [coverB, Bool.and_eq_true] at h
    rcases List.mem_cons.1 hp with rfl | hp
    · intro ty sz α e z l i v e'; cases e'
    · exact coverH_spec h.2 p hp
  | (a, .data _ _ _ _ _) :: l, h, p, hp => by
    simp only [coverB] at h
    rcases List.mem_cons.1 hp with rfl | hp
    · intro ty sz α e z l i v e'; cases e'
    · exact coverH_spec h p hp
  | (a, .hole _ _ _ _ _ _ _) :: l, h, p, hp => by
    simp only [coverB, Bool.and_eq_true] at h
    rcases List.mem_cons.1 hp with rfl | hp
    · intro ty sz α e z l i v e'; cases e'; exact keysOk_spec h.1
    · exact coverH_spec h.2 p hp
  | (a, .vec _ _) :: l, h, p, hp => by
    simp only [coverB, Bool.and_eq_true] at h
    rcases List.mem_cons.1 hp with rfl | hp
    · intro ty sz α e z l i v e'; cases e'
    · exact coverH_spec h.2 p hp

theorem allT_dfs {s : St} : ∀ {l : List (Nat × V)}, AllT s l → s.dfs = []
  | [], h => h
  | _ :: _, h => allT_dfs h.2

theorem SR.slots {X : Ctx} {io : Nat → Option Nat} {F : Nat → Prop} {s : St} {a : Act} {w : World} (hs : SR X io F s a w) {ts : List (Nat × V)} {bs : List (Nat × Blk)} (ht : AllT s ts) (hb : AllB s bs) (hc : (coverT bs ts && coverB bs bs) = true) : SR X io F (St.of ts bs) a w := by
  have hd := allT_dfs ht
  simp only [Bool.and_eq_true] at hc
  have hl : ∀ k, hasKey bs k = true → s.ln k ≤ (St.of ts bs).ln k := fun k hk => by
    unfold hasKey at hk
    split at hk
    · rename_i b hb'
      obtain ⟨h1, _⟩ := lookB_of hb k b hb'
      rw [ln_of h1, ln_of (s := St.of ts bs) (b := b) hb']; exact Nat.le_refl _
    · cases hk
  refine ⟨hs.kept, fun t => ?_, hs.nt, ?_, fun k b hk => ?_, fun k k' b h1 h2 => ?_, hs.ff, hs.f0, hs.st⟩
  · rcases lookT_of ht t with ⟨h1, p, h2, h3⟩ | h1
    · show VR _ F w (lookT ts t) _
      rw [h1]
      refine VR.restrict (ln := s.ln) _ _ (fun k hk => hl k ?_) (hs.tm t)
      rw [← h3] at hk
      exact coverT_spec hc.1 p h2 k hk
    · show VR _ F w (lookT ts t) _
      rw [h1]; exact VR.undef _
  · have := hs.df
    rw [hd] at this
    exact this
  · obtain ⟨h1, p, h2, h3⟩ := lookB_of hb k b hk
    have := hs.bl k b h1
    cases b with
    | data ty sz e z l => exact this
    | box ty cells =>
      simp only [BR] at this ⊢
      obtain ⟨b, arr, g1, g2, g3, g4, g5⟩ := this
      exact ⟨b, arr, g1, g2, g3, g4, VRA.restrict (ln := s.ln) _ _ _ (fun k' hk' => hl k' (coverB_spec hc.2 p h2 ty cells (by rw [h3]) k' hk')) g5⟩
    | vec ty cells =>
      simp only [BR] at this ⊢
      obtain ⟨b, arr, g1, g2, g3, g4, g5⟩ := this
      exact ⟨b, arr, g1, g2, g3, g4, VRA.restrict (ln := s.ln) _ _ _ (fun k' hk' => hl k' (coverV_spec hc.2 p h2 ty cells (by rw [h3]) k' hk')) g5⟩
    | hole ty sz e z l i v =>
      simp only [BR] at this ⊢
      obtain ⟨b, arr, g1, g2, g3, g4, g5⟩ := this
      obtain ⟨q0, q1, u, q2, q2', q3⟩ := g5
      exact ⟨b, arr, g1, g2, g3, g4, q0, q1, u, q2, q2', VR.restrict (ln := s.ln) _ _ (fun k' hk' => hl k' (coverH_spec hc.2 p h2 ty sz _ e z l i v (by rw [h3]) k' hk')) q3⟩
  · obtain ⟨b1, e1⟩ := Option.ne_none_iff_exists'.1 h1
    obtain ⟨b2, e2⟩ := Option.ne_none_iff_exists'.1 h2
    exact hs.inj k k' b (by rw [(lookB_of hb k b1 e1).1]; simp) (by rw [(lookB_of hb k' b2 e2).1]; simp)

theorem awp_slots {X : Ctx} {c : Code} {Q : Exit → St → Prop} {s : St} (ts : List (Nat × V)) (bs : List (Nat × Blk)) (ht : AllT s ts) (hb : AllB s bs) (h : awp X c Q (St.of ts bs)) (hc : (coverT bs ts && coverB bs bs) = true := by rfl) : awp X c Q s :=
  fun io F a w hs => h io F a w (hs.slots ht hb hc)

theorem awp_loop1 {α : Type} {X : Ctx} {c : Code} {Q : Exit → St → Prop} {s : St} (st : α → List (Nat × V) × List (Nat × Blk)) (I : α → Prop) (mu : α → Nat) (x0 : α) (h0 : I x0) (ht : AllT s (st x0).1) (hb : AllB s (st x0).2)
    (round : ∀ x, I x → awp X c (andThen (fun s' => ∃ y, I y ∧ mu y < mu x ∧ AllT s' (st y).1 ∧ AllB s' (st y).2) Q) (St.of (st x).1 (st x).2)) (hc : ∀ x, (coverT (st x).2 (st x).1 && coverB (st x).2 (st x).2) = true := by exact fun _ => rfl) : awp X (.loop c) Q s := by
  intro io F a w hs b k cs
  have key : ∀ n x io F a w, mu x = n → I x → SR X io F (St.of (st x).1 (st x).2) a w → ∃ e a' w', lift X Q e a' w' ∧ Arrives X.P (lone (b.at a (.code c :: .inLoop c :: k)) cs w) b k cs e a' w' := by
    intro n
    induction n using Nat.strongRecOn with
    | _ n ih =>
      intro x io F a w hn hI hs
      obtain ⟨e, a₁, w₁, hq, harr⟩ := round x hI io F a w hs b (.inLoop c :: k) cs
      obtain ⟨s₁, io₁, F₁, hq, hs₁⟩ := hq
      cases e with
      | normal =>
        obtain ⟨y, hI₁, hlt, hty, hby⟩ := hq
        obtain ⟨e₂, a₂, w₂, hq₂, harr₂⟩ := ih (mu y) (hn ▸ hlt) y io₁ F₁ a₁ w₁ rfl hI₁ (hs₁.slots hty hby (hc y))
        exact ⟨e₂, a₂, w₂, hq₂, .of_steps (Steps.trans harr (.one step_inLoop)) harr₂⟩
      | exit id => exact ⟨_, a₁, w₁, ⟨s₁, io₁, F₁, hq, hs₁⟩, .pass (x := .inLoop c) rfl (fun _ _ => .inl (by simp)) harr⟩
      | goto l => exact ⟨_, a₁, w₁, ⟨s₁, io₁, F₁, hq, hs₁⟩, .pass (x := .inLoop c) rfl (fun _ _ => .inl (by simp)) harr⟩
      | ret => exact ⟨_, a₁, w₁, ⟨s₁, io₁, F₁, hq, hs₁⟩, .pass (x := .inLoop c) rfl (fun _ _ => .inl (by simp)) harr⟩
      | panic ch => exact ⟨_, a₁, w₁, ⟨s₁, io₁, F₁, hq, hs₁⟩, .pass (x := .inLoop c) rfl (fun _ _ => .inl (by simp)) harr⟩
      | outgrown => exact ⟨_, a₁, w₁, ⟨s₁, io₁, F₁, hq, hs₁⟩, .pass (x := .inLoop c) rfl (fun _ _ => .inl (by simp)) harr⟩
  obtain ⟨e, a', w', hq, harr⟩ := key _ x0 io F a w rfl h0 (hs.slots ht hb (hc x0))
  exact ⟨e, a', w', hq, .of_steps (.one step_loop) harr⟩

theorem awp_loop2 {α β : Type} {X : Ctx} {c : Code} {Q : Exit → St → Prop} {s : St} (st : α → β → List (Nat × V) × List (Nat × Blk)) (I : α → β → Prop) (mu : α → β → Nat) (x0 : α) (y0 : β) (h0 : I x0 y0) (ht : AllT s (st x0 y0).1) (hb : AllB s (st x0 y0).2)
    (round : ∀ x y, I x y → awp X c (andThen (fun s' => ∃ x' y', I x' y' ∧ mu x' y' < mu x y ∧ AllT s' (st x' y').1 ∧ AllB s' (st x' y').2) Q) (St.of (st x y).1 (st x y).2)) (hc : ∀ x y, (coverT (st x y).2 (st x y).1 && coverB (st x y).2 (st x y).2) = true := by exact fun _ _ => rfl) : awp X (.loop c) Q s :=
  awp_loop1 (fun p : α × β => st p.1 p.2) (fun p => I p.1 p.2) (fun p => mu p.1 p.2) (x0, y0) h0 ht hb (fun p hp => awp_mono (fun e s h => by
    cases e <;> first | exact h | exact (let ⟨x, y, h⟩ := h; ⟨(x, y), h⟩)) (round p.1 p.2 hp)) (fun p => hc p.1 p.2)
theorem awp_loop3 {α β γ : Type} {X : Ctx} {c : Code} {Q : Exit → St → Prop} {s : St} (st : α → β → γ → List (Nat × V) × List (Nat × Blk)) (I : α → β → γ → Prop) (mu : α → β → γ → Nat) (x0 : α) (y0 : β) (z0 : γ) (h0 : I x0 y0 z0) (ht : AllT s (st x0 y0 z0).1) (hb : AllB s (st x0 y0 z0).2)
    (round : ∀ x y z, I x y z → awp X c (andThen (fun s' => ∃ x' y' z', I x' y' z' ∧ mu x' y' z' < mu x y z ∧ AllT s' (st x' y' z').1 ∧ AllB s' (st x' y' z').2) Q) (St.of (st x y z).1 (st x y z).2)) (hc : ∀ x y z, (coverT (st x y z).2 (st x y z).1 && coverB (st x y z).2 (st x y z).2) = true := by exact fun _ _ _ => rfl) : awp X (.loop c) Q s :=
  awp_loop1 (fun p : α × β × γ => st p.1 p.2.1 p.2.2) (fun p => I p.1 p.2.1 p.2.2) (fun p => mu p.1 p.2.1 p.2.2) (x0, y0, z0) h0 ht hb (fun p hp => awp_mono (fun e s h => by
    cases e <;> first | exact h | exact (let ⟨x, y, z, h⟩ := h; ⟨(x, y, z), h⟩)) (round p.1 p.2.1 p.2.2 hp)) (fun p => hc p.1 p.2.1 p.2.2)

theorem awp_adopt {X : Ctx} {c : Code} {Q : Exit → St → Prop} {s : St} (t k : Nat) (ty : TypeId) (sz : Nat) {α : Type} (e : α → List D) (z : α) (ht : s.tmps t = .d .nils) (h : awp X c Q ((s.new k (.data ty sz e z [])).put (some t) (.own k 0 0 ty sz))) (hK : X.K.contains k = false := by rfl) : awp X c Q s := fun io F a w hs => by
  have hs0 : SR X (updio io k none) F (s.new k (.data ty sz e z [])) a w := SR.setBlk (hs.kill k none (notMem hK)) (by rw [sub_ln_same]; exact Nat.zero_le _) (by simp only [BR]; exact .inl ⟨updio_same _ _ _, trivial⟩) fun j c _ _ _ h => by rw [updio_same] at h; cases h
  refine h (updio io k none) F a w ⟨hs0.kept, fun u => ?_, hs0.nt, hs0.df, hs0.bl, hs0.inj, hs0.ff, hs0.f0, hs0.st⟩
  rw [put_keys]
  simp only [St.put]
  cases hb : Nat.beq u t with
  | true =>
    have := Nat.eq_of_beq_eq_true hb
    subst this
    have hv := hs.tm u
    rw [ht] at hv
    simp only [VR, DR] at hv
    simp only [cond_true, VR]
    exact .inl ⟨updio_same _ _ _, hv, trivial, trivial⟩
  | false => simpa using hs0.tm u

theorem awp_nils {X : Ctx} {c : Code} {Q : Exit → St → Prop} {s : St} (t : Nat) (sz : Nat) {α : Type} (e : α → List D) (z : α) (ht : s.tmps t = .d .nils) (h : awp X c Q (s.put (some t) (.d (.sl sz e z [])))) : awp X c Q s := fun io F a w hs => by
  refine h io F a w ⟨hs.kept, fun u => ?_, hs.nt, hs.df, hs.bl, hs.inj, hs.ff, hs.f0, hs.st⟩
  rw [put_keys]
  simp only [St.put]
  cases hb : Nat.beq u t with
  | true =>
    have := Nat.eq_of_beq_eq_true hb
    subst this
    have hv := hs.tm u
    rw [ht] at hv
    simp only [cond_true, VR] at hv ⊢
    exact LeD.nils F w _ hv
  | false => simpa using hs.tm u

/-! ## Leaving a function -/

def resOne (T : TypeId → Option TyD) (s : St) : ResultVar → Option V
  | .tmp t => some (s.tmps t)
  | .cell a t => match T t, s.tmps a with
    | some td, .ptr k o => match s.blk k with
      | some (.box _ cells) => takeV td cells o
      | _ => none
    | _, _ => none
def resAll (T : TypeId → Option TyD) (s : St) : List ResultVar → Option (List V)
  | [] => some []
  | r :: rs => match resOne T s r, resAll T s rs with | some x, some xs => some (x :: xs) | _, _ => none
def resOf (T : TypeId → Option TyD) (m : Bool) (s : St) (rs : List ResultVar) : Ev D :=
  match resAll T s rs with
  | some [x] => V.asD m s x
  | some xs => match V.asDs m s xs with | some (C, ds) => some (C, .tup ds) | none => none
  | none => none

def runRes (tmps : Array Value) : ResultVar → Sem Value
  | .tmp t => pure (tmps.getD t Go.undef)
  | .cell b t => do loadVar t (← asAddr (tmps.getD b Go.undef))

theorem results_eq (fn : Func) (tmps : Array Value) : results fn tmps = (do let vs ← fn.results.mapM (runRes tmps); pure (if h : vs.size = 1 then vs[0] else .tuple vs)) := by
  unfold results
  have : (fun x : ResultVar => match x with
    | .tmp t => (pure (tmps.getD t Go.undef) : Sem Value)
    | .cell a t => do loadVar t (← asAddr (tmps.getD a Go.undef))) = runRes tmps := by
    funext r; cases r <;> rfl
  exact congrArg (fun f => (do let vs ← fn.results.mapM f; pure (if h : vs.size = 1 then vs[0] else .tuple vs) : Sem Value)) this

section
variable {X : Ctx} {T : TypeId → Option TyD} {io : Nat → Option Nat} {F : Nat → Prop} {s : St} {a : Act} {w : World}

theorem resOne_sound (hT : TabOk X.P T) (hs : SR X io F s a w) {r : ResultVar} {y : V} (h : resOne T s r = some y) :
    ∃ v, (runRes a.tmps r).run X.P w = .ok v w ∧ VR (s.keys io) F w y v := by
  cases r with
  | tmp t =>
    simp only [resOne, Option.some.injEq] at h; subst h
    exact ⟨_, rfl, hs.tm t⟩
  | cell b t =>
    simp only [resOne] at h
    split at h
    · rename_i td k o htd hp
      split at h
      · rename_i ty cells hk
        have ha := hs.tm b
        rw [hp] at ha
        simp only [VR] at ha
        obtain ⟨c, hc, e⟩ := ha
        have hbr := hs.bl k _ hk
        simp only [BR] at hbr
        obtain ⟨c', arr, hc', _, _, hh, hr⟩ := hbr
        rw [hc'] at hc; cases hc
        obtain ⟨v, hv, hd⟩ := takeV_sound (P := X.P) (hT _ _ htd) hh hr h
        refine ⟨v, ?_, hd⟩
        simp only [runRes, e, asAddr, Sem.run_bind, Sem.run_pure, Result.andThen_ok]
        simpa using hv
      · cases h
    · cases h

theorem resAll_sound (hT : TabOk X.P T) (hs : SR X io F s a w) : ∀ (rs : List ResultVar) {ys : List V}, resAll T s rs = some ys →
    ∃ vs, (rs.mapM (runRes a.tmps)).run X.P w = .ok vs w ∧ vs.length = ys.length ∧ VRT (s.keys io) F w (fun i => vs[i]?) 0 ys
  | [], ys, h => by
    simp only [resAll, Option.some.injEq] at h; subst h
    exact ⟨[], rfl, rfl, by simp only [VRT]⟩
  | r :: rs, ys, h => by
    simp only [resAll] at h
    split at h
    · rename_i x xs h1 h2
      simp only [Option.some.injEq] at h; subst h
      obtain ⟨v, hv, hd⟩ := resOne_sound hT hs h1
      obtain ⟨vs, hvs, hl, hds⟩ := resAll_sound hT hs rs h2
      refine ⟨v :: vs, ?_, by simp [hl], ?_⟩
      · simp only [List.mapM_cons, Sem.run_bind, hv, Result.andThen_ok, hvs, Sem.run_pure]
      · rw [VRT_iff] at hds ⊢
        intro i c hi
        cases i with
        | zero => simp at hi; subst hi; exact ⟨v, by simp, hd⟩
        | succ i =>
          simp at hi
          obtain ⟨u, h1, h2⟩ := hds i c hi
          exact ⟨u, by simpa using h1, h2⟩
    · cases h

theorem run_results (fn : Func) {vs : List Value} (hvs : (fn.results.toList.mapM (runRes a.tmps)).run X.P w = .ok vs w) : (results fn a.tmps).run X.P w = .ok (if h : vs.length = 1 then vs[0] else .tuple vs.toArray) w := by
  rw [results_eq]
  simp only [Sem.run_bind]
  rw [Array.mapM_eq_mapM_toList]
  simp only [Sem.run_map]
  rw [hvs]
  simp only [Result.andThen_ok, Sem.run_pure]
  by_cases h : vs.length = 1
  · simp [h]
  · simp [h]

theorem resOf_sound (hT : TabOk X.P T) (hs : SR X io F s a w) (fn : Func) {m : Bool} {C : Prop} {y : D} (h : resOf T m s fn.results.toList = some (C, y)) (hC : C) :
    ∃ v, (results fn a.tmps).run X.P w = .ok v w ∧ DR (Lent s io F) w y v := by
  unfold resOf at h
  split at h
  · rename_i x hr
    obtain ⟨vs, hvs, hl, hd⟩ := resAll_sound hT hs _ hr
    obtain ⟨v, rfl⟩ := List.length_eq_one_iff.1 (show vs.length = 1 by simpa using hl)
    simp only [VRT] at hd
    obtain ⟨⟨u, hu, hd⟩, _⟩ := hd
    simp at hu; subst hu
    exact ⟨v, by rw [run_results fn hvs]; simp, asD_sound hs.bl x v h hC hd⟩
  · rename_i xs hne hr
    split at h
    · rename_i C' ds hds
      simp only [Option.some.injEq, Prod.mk.injEq] at h; obtain ⟨rfl, rfl⟩ := h
      obtain ⟨vs, hvs, hl, hd⟩ := resAll_sound hT hs _ hr
      have hn1 : vs.length ≠ 1 := fun e => by
        obtain ⟨x, hx⟩ := List.length_eq_one_iff.1 (hl.symm.trans e)
        subst hx
        exact hne _ rfl
      refine ⟨_, run_results fn hvs, ?_⟩
      rw [dif_neg hn1]
      obtain ⟨q1, q2⟩ := asTs_sound hs.bl xs hds hC _ _ hd
      simp only [DR]
      exact ⟨vs.toArray, rfl, by simp; omega, by simpa using q2⟩
    · cases h
  · cases h
end

def retPost (T : TypeId → Option TyD) (fn : Func) (R : D → Prop) : Exit → St → Prop
  | .normal, s | .ret, s => s.dfs = [] ∧ ∃ m C r r', resOf T m s fn.results.toList = some (C, r) ∧ C ∧ LeD r r' ∧ R r'
  | _, _ => False

def St.init (ds : List D) : St := { tmps := fun t => .d (nth .undef ds t), blk := fun _ => none, dfs := [] }

theorem nth_none {α : Type 1} {d : α} : ∀ {l : List α} {i : Nat}, l.length ≤ i → nth d l i = d
  | [], i, h => rfl
  | r :: rs, 0, h => by simp at h
  | r :: rs, i + 1, h => by simp at h; simp [nth, nth_none h]

theorem sr_init {P : Program} {T : TypeId → Option TyD} (hT : TabOk P T) {N : Nat} {w : World} {F : Nat → Prop} {ds : List D} {vs : Array Value} (hl : vs.size = ds.length) (hn : ds.length ≤ N) (hF : ∀ b, F b → b < w.heap.size) (hv : DRT F w (fun i => vs[i]?) 0 ds) : SR ⟨P, T, hT, N, w, fun _ => False, F, [], fun _ => none⟩ (fun _ => none) F (St.init ds) { tmps := vs ++ Array.replicate (N - vs.size) undef, defers := [] } w := by
  refine ⟨⟨rfl, rfl, rfl, Nat.le_refl _, fun _ _ _ => rfl, Shapes.refl _⟩, fun t => ?_, by simp; omega, rfl, fun k b h => by simp [St.init] at h, fun k k' b h => by simp [St.init] at h, fun b h => ⟨hF b h, .inl h⟩, fun b h => h, fun k hk => by simp at hk⟩
  simp only [St.init, VR]
  by_cases ht : t < vs.size
  · have hx := List.getElem?_eq_getElem (show t < ds.length by omega)
    obtain ⟨v, h1, h2⟩ := DRT_iff.1 hv t _ hx
    simp only [Nat.zero_add] at h1
    rw [nth_of hx]
    have : (vs ++ Array.replicate (N - vs.size) undef).getD t undef = v := by
      rw [Array.getD_eq_getD_getElem?, Array.getElem?_append_left ht, h1]; rfl
    rw [this]; exact h2
  · rw [nth_none (by omega)]; simp only [DR]

theorem lent_new {X : Ctx} {io : Nat → Option Nat} {F : Nat → Prop} {s : St} {a : Act} {w : World} (hs : SR X io F s a w) (hA : ∀ b, ¬ X.A b) : ∀ b, Lent s io F b → X.F0 b ∨ (X.w0.heap.size ≤ b ∧ b < w.heap.size) := fun b h => by
  rcases h with h | ⟨k, hk, e⟩
  · obtain ⟨h1, h2⟩ := hs.ff b h
    rcases h2 with h2 | h2 | h2
    · exact .inl h2
    · exact .inr ⟨h2, h1⟩
    · exact (hA b h2).elim
  · obtain ⟨bl, hbl⟩ := Option.ne_none_iff_exists'.1 hk
    have := hs.bl k bl hbl
    have : b < w.heap.size ∧ (X.A b ∨ X.w0.heap.size ≤ b) := by
      cases bl with
      | data ty sz e' z l =>
        simp only [BR] at this
        rcases this with ⟨h0, _⟩ | ⟨c', arr, g1, _, g3, g4, _⟩
        · rw [show io k = none from h0] at e; cases e
        · rw [show io k = some c' from g1] at e; cases e; exact ⟨lt_of_heap g4, g3⟩
      | box ty cells =>
        simp only [BR] at this
        obtain ⟨c', arr, g1, _, g3, g4, _⟩ := this
        rw [show io k = some c' from g1] at e; cases e; exact ⟨lt_of_heap g4, g3⟩
      | vec ty cells =>
        simp only [BR] at this
        obtain ⟨c', arr, g1, _, g3, g4, _⟩ := this
        rw [show io k = some c' from g1] at e; cases e; exact ⟨lt_of_heap g4, g3⟩
      | hole ty sz e' z l i v =>
        simp only [BR] at this
        obtain ⟨c', arr, g1, _, g3, g4, _⟩ := this
        rw [show io k = some c' from g1] at e; cases e; exact ⟨lt_of_heap g4, g3⟩
    exact .inr ⟨this.2.resolve_left (hA b), this.1⟩

theorem ret_of_awp {P : Program} {T : TypeId → Option TyD} (hT : TabOk P T) {f : FuncId} {fn : Func} {c : Code} (hf : P.funcs[f]? = some fn) (hname : (fn.name == "runtime.NumGoroutine") = false) (hb : fn.body = some c) {ds : List D} (hn : ds.length ≤ fn.ntmps) {R : D → Prop}
    (h : ∀ w0 F0, awp ⟨P, T, hT, fn.ntmps, w0, fun _ => False, F0, [], fun _ => none⟩ c (retPost T fn R) (St.init ds)) : Ret P f ds R := by
  refine ⟨⟨fn, hf, hname, by rw [hb]; rfl⟩, fun F w vs hF hl hv => ?_⟩
  refine calls_of_wp hf hb ?_
  refine wp_mono (h w F _ _ _ _ (sr_init hT hl hn hF hv)) fun e a' w' ⟨s', io', F', hq, hs'⟩ => ?_
  have fin : (s'.dfs = [] ∧ ∃ m C r r', resOf T m s' fn.results.toList = some (C, r) ∧ C ∧ LeD r r' ∧ R r') → a'.defers = [] ∧ ∃ v, (results fn a'.tmps).run P w' = .ok v w' ∧ ∃ v' r F'', Ending.returned v = .returned v' ∧ R r ∧ Below w.heap.size w w' ∧ (∀ b, F b → F'' b) ∧ (∀ b, F'' b → F b ∨ (w.heap.size ≤ b ∧ b < w'.heap.size)) ∧ DR F'' w' r v' := fun ⟨hd, m, C, r, r', h1, h2, hle, h3⟩ => by
    obtain ⟨v, hv, hd'⟩ := resOf_sound hT hs' fn h1 h2
    have hdf := hs'.df
    rw [hd] at hdf
    exact ⟨hdf, v, hv, v, r', Lent s' io' F', rfl, h3, ⟨hs'.kept.os, hs'.kept.tape, hs'.kept.output, hs'.kept.size, fun k hk => hs'.kept.block k hk fun h => h⟩, fun b h => .inl (hs'.f0 b h), fun b h => lent_new hs' (fun _ h => h) b h, hle _ _ _ hd'⟩
  cases e <;> simp only [retPost] at hq <;> first | exact hq.elim | exact fin hq
end Go.Vw

/-
  Regions whose order is drawn: what leaves memory as it was, or makes data, comes out the same in every order. Conditions: the table of types is the program's; Region facts are closed.
-/
namespace Go.Vw
open Go.RowKit

inductive MRun (X : Ctx) (all : Array Oper) : List Oper → St → St → Prop
  | nil {s : St} : MRun X all [] s s
  | cons {o : Oper} {rest : List Oper} {s s' : St} {x : V} (hd : dstOk X.N o.dst = true) (h : M1 X all s o x) (k : MRun X all rest (s.put o.dst x) s') : MRun X all (o :: rest) s s'

theorem M1.congr {X : Ctx} {all : Array Oper} {s s' : St} {o : Oper} {x : V} (hb : s'.blk = s.blk) (h : ∀ t ∈ o.looksAt all, s'.tmps t = s.tmps t) (hm : M1 X all s o x) : M1 X all s' o x := fun io F a w ht hbl hF K Q hK => by
  have hk : s'.keys io = s.keys io := by
    have : s'.ln = s.ln := by funext k; simp only [St.ln, hb]
    simp only [St.keys, this]
  rw [hk] at ht hbl
  refine hm io F a w (fun t htt => by rw [← h t htt]; exact ht t htt) (fun k b e => hbl k b (by rw [hb]; exact e)) hF K Q fun F' w' v h1 h2 h3 h4 => hK F' w' v h1 h2 h3 (by rw [hk]; exact h4)

theorem m1_sound {X : Ctx} {io : Nat → Option Nat} {F : Nat → Prop} {s : St} {a : Act} {w : World} (hs : SR X io F s a w) {all : Array Oper} {o : Oper} {x : V} (hd : dstOk X.N o.dst = true) (h : M1 X all s o x) {K : Act → World → Prop} {Q : Exit → Act → World → Prop}
    (hK : ∀ F' a' w', SR X io F' (s.put o.dst x) a' w' → K a' w') : opWp X.P all o a w K Q :=
  h io F a w (fun t _ => hs.tm t) hs.bl (fun b hb => (hs.ff b hb).1) K Q fun F' w' v h1 h2 h3 h4 => hK F' _ _ ((hs.grow h1 h2 h3).put (dstOk_sound hd) h4)

/-! ## Which operations are forced behind which -/

def direct (o : Oper) (j : Nat) : Bool := o.after.any fun e => Region.binds .any e && Nat.beq e.on j

def masks : List Oper → List Nat → List Nat
  | [], acc => acc
  | o :: rest, acc => masks rest (acc ++ [o.after.toList.foldl (fun m e => bif Region.binds .any e then (m ||| 2 ^ e.on ||| acc.getD e.on 0) else m) 0])

def dstAt (ops : Array Oper) (j : Nat) : Option Tmp := (ops[j]?).bind (·.dst)

def backward (ops : Array Oper) : Bool := (List.range ops.size).all fun i => match ops[i]? with | some o => o.after.toList.all fun e => !Region.binds .any e || Nat.blt e.on i | none => true

theorem masks_spec (L : Nat → Prop) : ∀ (l : List Oper) (acc : List Nat) (base : Nat), acc.length = base →
    (∀ i, i < acc.length → L i → ∀ j, (acc.getD i 0).testBit j = true → L j) →
    (∀ k o, l[k]? = some o → L (base + k) → ∀ e ∈ o.after, Region.binds .any e = true → L e.on) →
    (∀ k o, l[k]? = some o → ∀ e ∈ o.after, Region.binds .any e = true → e.on < base + k) →
    ∀ i, L i → ∀ j, ((masks l acc).getD i 0).testBit j = true → L j
  | [], acc, base, hlen, hacc, _, _, i, hi, j, hj => by
    simp only [masks] at hj
    by_cases h : i < acc.length
    · exact hacc i h hi j hj
    · simp [List.getD, List.getElem?_eq_none (show acc.length ≤ i by omega)] at hj
  | o :: rest, acc, base, hlen, hacc, hdir, hbk, i, hi, j, hj => by
    simp only [masks] at hj
    refine masks_spec L rest _ (base + 1) (by simp [hlen]) ?_ (fun k o' h1 h2 => hdir (k + 1) o' (by simpa using h1) (by rwa [show base + (k + 1) = base + 1 + k by omega])) (fun k o' h1 e he hb => by have := hbk (k + 1) o' (by simpa using h1) e he hb; omega) i hi j hj
    intro i' hi' hL j' hj'
    by_cases h : i' < acc.length
    · refine hacc i' h hL j' ?_
      simpa [List.getD, List.getElem?_append_left h] using hj'
    · have hi2 : i' = base := by simp at hi'; omega
      subst hi2
      have hd := hdir 0 o (by simp) (by simpa using hL)
      have hb := hbk 0 o (by simp)
      have hval : (acc ++ [o.after.toList.foldl (fun m e => bif Region.binds .any e then (m ||| 2 ^ e.on ||| acc.getD e.on 0) else m) 0]).getD i' 0 = o.after.toList.foldl (fun m e => bif Region.binds .any e then (m ||| 2 ^ e.on ||| acc.getD e.on 0) else m) 0 := by
        rw [← hlen]; simp [List.getD]
      rw [hval] at hj'
      have fold : ∀ (es : List Edge) (m : Nat), (∀ e ∈ es, e ∈ o.after) → (m.testBit j' = true → L j') → (es.foldl (fun m e => bif Region.binds .any e then (m ||| 2 ^ e.on ||| acc.getD e.on 0) else m) m).testBit j' = true → L j' := by
        intro es
        induction es with
        | nil => intro m _ hm h; exact hm h
        | cons e es ih =>
          intro m hes hm h
          simp only [List.foldl_cons] at h
          refine ih _ (fun e' he' => hes e' (by simp [he'])) ?_ h
          intro hb2
          cases hbind : Region.binds .any e with
          | false => rw [hbind] at hb2; exact hm (by simpa using hb2)
          | true =>
            rw [hbind] at hb2
            simp only [cond_true, Nat.testBit_or, Bool.or_eq_true] at hb2
            have he := hd e (hes e (by simp)) hbind
            rcases hb2 with (h | h) | h
            · exact hm h
            · rw [Nat.testBit_two_pow] at h
              have : e.on = j' := by simpa using h
              rw [← this]; exact he
            · have hlt := hb e (hes e (by simp)) hbind
              exact hacc e.on (by omega) he j' h
      exact fold _ 0 (fun e he => by simpa using he) (fun h => by simp at h) hj'

structure TailFacts (ops : Array Oper) (n : Nat) : Prop where
  back : ∀ i o, ops[i]? = some o → ∀ e ∈ o.after, Region.binds .any e = true → e.on < i
  le : n ≤ ops.size
  tail : ∀ i, n ≤ i → i < ops.size → ∀ j, j < i → ((masks ops.toList []).getD i 0).testBit j = true
structure MonoFacts (ops : Array Oper) (n : Nat) : Prop where
  back : ∀ i o, ops[i]? = some o → ∀ e ∈ o.after, Region.binds .any e = true → e.on < i
  le : n ≤ ops.size
  dst : ∀ i, i < n → ∃ o d, ops[i]? = some o ∧ o.dst = some d ∧ ∀ j, j < n → j ≠ i → dstAt ops j ≠ some d
  look : ∀ i o, i < n → ops[i]? = some o → ∀ t ∈ o.looksAt ops, ∀ j, j < n → dstAt ops j = some t → direct o j = true
  tail : ∀ i, n ≤ i → i < ops.size → ∀ j, j < i → ((masks ops.toList []).getD i 0).testBit j = true

theorem MonoFacts.tf {ops : Array Oper} {n : Nat} (h : MonoFacts ops n) : TailFacts ops n := ⟨h.back, h.le, h.tail⟩
section
variable {ops : Array Oper} {n : Nat} (hf : MonoFacts ops n) {s : St} {xs : Nat → V}
include hf

end

theorem getD_set_self {listed : Array Bool} {i : Nat} (h : i < listed.size) (d : Bool) : (listed.setIfInBounds i true).getD i d = true := by
  simp [h]

theorem countP_lt {p q : Nat → Bool} {i : Nat} (hp : p i = true) (hq : q i = false) (hle : ∀ j, q j = true → p j = true) : ∀ {l : List Nat}, i ∈ l → l.countP q < l.countP p := by
  intro l
  induction l with
  | nil => intro h; cases h
  | cons a l ih =>
    intro h
    have hmono : l.countP q ≤ l.countP p := List.countP_mono_left fun j _ hj => hle j hj
    rcases List.mem_cons.1 h with e | h
    · subst e
      rw [List.countP_cons_of_pos hp, List.countP_cons_of_neg (by simp [hq])]
      omega
    · have := ih h
      simp only [List.countP_cons]
      by_cases hqa : q a = true
      · simp [hqa, hle a hqa]; omega
      · simp [hqa]; omega

theorem wpAny_tail {P : Program} {ops : Array Oper} {n : Nat} (hf : TailFacts ops n) {Q : Exit → Act → World → Prop} : ∀ (m k fuel : Nat) (listed : Array Bool) (a : Act) (w : World), n ≤ k → k + m = ops.size → m ≤ fuel → listed.size = ops.size → (∀ j, listed.getD j false = true ↔ j < k) →
    wpList P ops Q (ops.toList.drop k) a w → wpAny P .any ops Q fuel listed a w := by
  intro m
  induction m with
  | zero =>
    intro k fuel listed a w hnk hkm hfu hsz hl h
    have hnil : Region.ready .any ops listed = [] := by
      apply List.eq_nil_iff_forall_not_mem.2
      intro j hj
      obtain ⟨h0, o, ho, _⟩ := mem_ready.1 hj
      have hlt := (Array.getElem?_eq_some_iff.1 ho).1
      have := (hl j).2 (by omega)
      simp [show j < listed.size by omega] at h0 this
      rw [h0] at this; cases this
    rw [List.drop_of_length_le (by simp; omega)] at h
    cases fuel with
    | zero => exact ⟨hnil, h⟩
    | succ fuel => exact ⟨fun _ => h, fun i hi => by rw [hnil] at hi; cases hi⟩
  | succ m ih =>
    intro k fuel listed a w hnk hkm hfu hsz hl h
    cases fuel with
    | zero => omega
    | succ fuel =>
      have hk : k < ops.size := by omega
      have hget : ops[k]? = some ops[k] := Array.getElem?_eq_getElem hk
      have hready : k ∈ Region.ready .any ops listed := mem_ready.2 ⟨by
          have : ¬ listed.getD k false = true := fun h => by have := (hl k).1 h; omega
          simp [show k < listed.size by omega] at this ⊢
          exact this, ops[k], hget, fun e he hb => (hl _).2 (hf.back k _ hget e he hb)⟩
      refine ⟨fun hnil => (by rw [hnil] at hready; cases hready), fun i hi => ?_⟩
      obtain ⟨h0, o, ho, hall⟩ := mem_ready.1 hi
      have hilt := (Array.getElem?_eq_some_iff.1 ho).1
      have hki : k ≤ i := by
        rcases Nat.lt_or_ge i k with h' | h'
        · have := (hl i).2 h'
          simp [show i < listed.size by omega] at h0 this
          rw [h0] at this; cases this
        · exact h'
      have hik : i = k := by
        rcases Nat.lt_or_ge k i with h' | h'
        · have hbit := hf.tail i (by omega) hilt k h'
          have := masks_spec (fun j => j < k ∨ j = i) ops.toList [] 0 rfl (fun i h => by simp at h) (fun k' o' h1 h2 e he hb => by
            rcases h2 with h2 | h2
            · left
              have := hf.back k' o' (by simpa using h1) e he hb
              omega
            · left
              simp only [Nat.zero_add] at h2
              subst h2
              have : o' = o := by simp at h1; rw [ho] at h1; cases h1; rfl
              subst this
              exact (hl _).1 (hall e he hb)) (fun k' o' h1 e he hb => by simpa using hf.back k' o' (by simpa using h1) e he hb) i (.inr rfl) k hbit
          rcases this with h | h
          · omega
          · exact h.symm
        · omega
      subst hik
      rw [List.drop_eq_getElem_cons (by simpa using hilt)] at h
      have ho2 : ops.toList[i]'(by simpa using hilt) = o := by
        have : ops[i] = o := by rw [Array.getElem?_eq_getElem hilt] at ho; cases ho; rfl
        simpa using this
      rw [ho2] at h
      have hop : wpOp P ops Q i (wpList P ops Q (ops.toList.drop (i + 1))) a w := by
        unfold wpOp
        simp only [ho]
        exact h
      refine wpOp_mono (fun a' w' h' => ih (i + 1) fuel _ a' w' (by omega) (by omega) (by omega) (by simpa using hsz) (fun j => ?_) h') hop
      by_cases e : j = i
      · subst e
        simp [getD_set_self (show j < listed.size by omega)]
      · rw [getD_set_ne false (Ne.symm e), hl j]
        omega

/-! ## Any order of what is ordered where it must be -/

mutual
def V.noKey (k : Nat) : V → Bool
  | .own k' _ _ _ _ => !(Nat.beq k' k)
  | .ptr k' _ => !(Nat.beq k' k)
  | .eptr k' _ _ _ => !(Nat.beq k' k)
  | .agg cs => V.noKeyL k cs
  | .tup cs => V.noKeyL k cs
  | .fn _ cs => V.noKeyL k cs
  | .d _ => true
def V.noKeyL (k : Nat) : List V → Bool
  | [] => true
  | x :: xs => V.noKey k x && V.noKeyL k xs
end
section
variable {k j : Nat} {ob : Option Blk}
mutual
theorem V.sub_noKey : ∀ x : V, x.noKey k = true → x.sub k ob = x
  | .own k' o n ty sz, h => by simp only [V.noKey, Bool.not_eq_true'] at h; simp only [V.sub, h, cond_false]
  | .ptr k' o, h => by simp only [V.noKey, Bool.not_eq_true'] at h; simp only [V.sub, h, cond_false]
  | .eptr k' sz i f, h => by simp only [V.noKey, Bool.not_eq_true'] at h; simp only [V.sub, h, cond_false]
  | .agg cs, h => by simp only [V.noKey] at h; simp only [V.sub, V.subL_noKey cs h]
  | .tup cs, h => by simp only [V.noKey] at h; simp only [V.sub, V.subL_noKey cs h]
  | .fn f cs, h => by simp only [V.noKey] at h; simp only [V.sub, V.subL_noKey cs h]
  | .d x, h => rfl
theorem V.subL_noKey : ∀ xs : List V, V.noKeyL k xs = true → V.subL k ob xs = xs
  | [], _ => rfl
  | x :: xs, h => by
    simp only [V.noKeyL, Bool.and_eq_true] at h
    simp only [V.subL, V.sub_noKey x h.1, V.subL_noKey xs h.2]
end
mutual
theorem V.noKey_sub : ∀ x : V, (x.sub k none).noKey k = true
  | .own k' o n ty sz => by
    simp only [V.sub]
    cases h : Nat.beq k' k with
    | true => rfl
    | false => simp [V.noKey, h]
  | .ptr k' o => by
    simp only [V.sub]
    cases h : Nat.beq k' k with
    | true => rfl
    | false => simp [V.noKey, h]
  | .eptr k' sz i f => by
    simp only [V.sub]
    cases h : Nat.beq k' k with
    | true => rfl
    | false => simp [V.noKey, h]
  | .agg cs => by simp only [V.sub, V.noKey]; exact V.noKeyL_sub cs
  | .tup cs => by simp only [V.sub, V.noKey]; exact V.noKeyL_sub cs
  | .fn f cs => by simp only [V.sub, V.noKey]; exact V.noKeyL_sub cs
  | .d x => rfl
theorem V.noKeyL_sub : ∀ xs : List V, V.noKeyL k (V.subL k none xs) = true
  | [] => rfl
  | x :: xs => by simp only [V.subL, V.noKeyL, V.noKey_sub x, V.noKeyL_sub xs, Bool.and_true]
end
mutual
theorem V.noKey_subO : ∀ x : V, x.noKey j = true → (x.sub k none).noKey j = true
  | .own k' o n ty sz, hx => by
    simp only [V.sub]
    cases h : Nat.beq k' k with
    | true => rfl
    | false => exact hx
  | .ptr k' o, hx => by
    simp only [V.sub]
    cases h : Nat.beq k' k with
    | true => rfl
    | false => exact hx
  | .eptr k' sz i f, hx => by
    simp only [V.sub]
    cases h : Nat.beq k' k with
    | true => rfl
    | false => exact hx
  | .agg cs, hx => by simp only [V.sub, V.noKey] at hx ⊢; exact V.noKeyL_subO cs hx
  | .tup cs, hx => by simp only [V.sub, V.noKey] at hx ⊢; exact V.noKeyL_subO cs hx
  | .fn f cs, hx => by simp only [V.sub, V.noKey] at hx ⊢; exact V.noKeyL_subO cs hx
  | .d x, _ => rfl
theorem V.noKeyL_subO : ∀ xs : List V, V.noKeyL j xs = true → V.noKeyL j (V.subL k none xs) = true
  | [], _ => rfl
  | x :: xs, h => by
    simp only [V.noKeyL, Bool.and_eq_true] at h
    simp only [V.subL, V.noKeyL, V.noKey_subO x h.1, V.noKeyL_subO xs h.2, Bool.and_true]
end
end
def Blk.noKey (k : Nat) : Blk → Bool
  | .data .. => true
  | .box _ cs => V.noKeyL k cs
  | .hole _ _ _ _ _ _ v => v.noKey k
  | .vec _ cs => V.noKeyL k cs
def dfNo (k : Nat) : List (FuncId × List V) → Bool
  | [] => true
  | (_, cs) :: r => V.noKeyL k cs && dfNo k r
structure FreeSt (k : Nat) (s : St) : Prop where
  tm : ∀ t, (s.tmps t).noKey k = true
  bl : ∀ j b, s.blk j = some b → b.noKey k = true
  df : dfNo k s.dfs = true
  no : s.blk k = none
theorem Blk.sub_noKey {k : Nat} {b : Blk} (h : b.noKey k = true) : b.sub k none = b := by
  cases b with
  | data => rfl
  | box ty cs => simp only [Blk.noKey] at h; simp only [Blk.sub, V.subL_noKey cs h]
  | vec ty cs => simp only [Blk.noKey] at h; simp only [Blk.sub, V.subL_noKey cs h]
  | hole ty sz e z l i v => simp only [Blk.noKey] at h; simp only [Blk.sub, V.sub_noKey v h]
theorem Blk.noKey_sub {k : Nat} (b : Blk) : (b.sub k none).noKey k = true := by
  cases b with
  | data => rfl
  | box ty cs => exact V.noKeyL_sub cs
  | vec ty cs => exact V.noKeyL_sub cs
  | hole ty sz e z l i v => exact V.noKey_sub v
theorem Blk.noKey_subO {k j : Nat} {b : Blk} (h : b.noKey j = true) : (b.sub k none).noKey j = true := by
  cases b with
  | data => rfl
  | box ty cs => exact V.noKeyL_subO cs h
  | vec ty cs => exact V.noKeyL_subO cs h
  | hole ty sz e z l i v => exact V.noKey_subO v h
theorem dfSub_no {k : Nat} : ∀ {l : List (FuncId × List V)}, dfNo k l = true → dfSub k none l = l
  | [], _ => rfl
  | (f, cs) :: r, h => by
    simp only [dfNo, Bool.and_eq_true] at h
    simp only [dfSub, V.subL_noKey cs h.1, dfSub_no h.2]
theorem dfNo_sub {k : Nat} : ∀ {l : List (FuncId × List V)}, dfNo k (dfSub k none l) = true
  | [] => rfl
  | (f, cs) :: r => by simp only [dfSub, dfNo, V.noKeyL_sub cs, dfNo_sub, Bool.and_true]
theorem dfNo_subO {k j : Nat} : ∀ {l : List (FuncId × List V)}, dfNo j l = true → dfNo j (dfSub k none l) = true
  | [], _ => rfl
  | (f, cs) :: r, h => by
    simp only [dfNo, Bool.and_eq_true] at h
    simp only [dfSub, dfNo, V.noKeyL_subO cs h.1, dfNo_subO h.2, Bool.and_true]
theorem FreeSt.sub {k : Nat} {s : St} (h : FreeSt k s) : s.sub k none = s := by
  have h1 : (s.sub k none).tmps = s.tmps := funext fun t => V.sub_noKey _ (h.tm t)
  have h2 : (s.sub k none).blk = s.blk := funext fun j => by
    simp only [St.sub]
    cases hb : Nat.beq j k with
    | true => have := Nat.eq_of_beq_eq_true hb; subst this; rw [h.no]; rfl
    | false =>
      simp only [cond_false]
      cases hj : s.blk j with
      | none => rfl
      | some b => simp only [Blk.sub_noKey (h.bl j b hj)]
  have h3 : (s.sub k none).dfs = s.dfs := dfSub_no h.df
  cases s
  simp only [St.sub, St.mk.injEq] at *
  exact ⟨h1, h2, h3⟩
def St.kills (s : St) : List Nat → St
  | [] => s
  | k :: r => (St.kills s r).sub k none
theorem FreeSt.kills {s : St} : ∀ (ks : List Nat) (k : Nat), k ∈ ks → FreeSt k (s.kills ks)
  | [], k, h => by simp at h
  | j :: r, k, h => by
    by_cases e : k = j
    · subst e
      refine ⟨fun t => V.noKey_sub _, fun i b hb => ?_, dfNo_sub, by simp [St.kills, St.sub]⟩
      obtain ⟨_, b0, _, rfl⟩ := sub_blk hb
      exact Blk.noKey_sub b0
    · have ih := FreeSt.kills (s := s) r k (by simpa [e] using h)
      refine ⟨fun t => V.noKey_subO _ (ih.tm t), fun i b hb => ?_, dfNo_subO ih.df, ?_⟩
      · obtain ⟨_, b0, h0, rfl⟩ := sub_blk hb
        exact Blk.noKey_subO (ih.bl i b0 h0)
      · cases hb : (s.kills (j :: r)).blk k with
        | none => rfl
        | some b =>
          obtain ⟨_, b0, h0, _⟩ := sub_blk hb
          rw [ih.no] at h0; cases h0
theorem SR.kills {X : Ctx} {F : Nat → Prop} {s : St} {a : Act} {w : World} : ∀ (ks : List Nat) (io : Nat → Option Nat), (∀ k ∈ ks, k ∉ X.K) → SR X io F s a w → ∃ io', SR X io' F (s.kills ks) a w
  | [], io, _, h => ⟨io, h⟩
  | k :: r, io, hk, h => by
    obtain ⟨io', h'⟩ := SR.kills r io (fun j hj => hk j (by simp [hj])) h
    exact ⟨_, h'.kill k none (hk k (by simp))⟩

inductive Upd : Type 1 where
  | reg (d : Option Tmp) (x : V)
  | blk (k : Nat) (b : Blk)
  | box (d : Tmp) (b : Blk)
def apU (s : St) : Upd → St
  | .reg d x => s.put d x
  | .blk k b => s.withBlk k b
  | .box d b => (s.withBlk d b).put (some d) (.ptr d 0)
def Upd.dst : Upd → Option Tmp
  | .reg d _ => d
  | .blk _ _ => none
  | .box d _ => some d
def Upd.key : Upd → Option Nat
  | .reg _ _ => none
  | .blk k _ => some k
  | .box d _ => some d

def regOp : Op → Bool
  | .move _ => true
  | .assign _ => true
  | .extract _ _ => true
  | .binOp .. => true
  | .indexAddr .. => true
  | .fieldAddr .. => true
  | .nilCheck _ => true
  | .call c => match c.callee with | .builtin .len => true | .builtin .min => true | .builtin .max => true | _ => false
  | _ => false
def isMove (o : Oper) : Bool := regOp o.op && (match o.guard with | none => true | _ => false)
def isStore (o : Oper) : Bool := match o.op with | .store .. => true | _ => false
def isAlloc (o : Oper) : Bool := match o.op with | .alloc _ => true | _ => false
def allocKeys (all : Array Oper) : List Nat := all.toList.filterMap fun o => match o.op with | .alloc _ => o.dst | _ => none
def chkV (all : Array Oper) (x : V) : Bool := match x with | .d _ => true | x => (allocKeys all).all fun k => x.noKey k
def chkB (all : Array Oper) (b : Blk) : Bool := match b with | .data .. => true | b => (allocKeys all).all fun k => b.noKey k
def chkK (all : Array Oper) (o : Oper) (k : Nat) : Bool := match o.op with | .store _ (.tmp d) _ => !((allocKeys all).contains d) || Nat.beq k d | _ => true
def isLoad (o : Oper) : Bool := (match o.op with | .load _ _ => true | _ => false) && (match o.guard with | none => true | _ => false)
def ldT (o : Oper) : Option Tmp := match o.op with | .load _ (.tmp a) => some a | _ => none
def keyOf (s : St) (o : Oper) : Option Nat := match o.op with
  | .load _ y => match s.opd y with | .ptr k _ => some k | .eptr k _ _ _ => some k | _ => none
  | _ => none
def stN (all : Array Oper) (b : Oper) : Option Tmp := match b.op with | .store _ (.tmp t) _ => (match all.toList.any fun o => o.dst == some t with | true => none | false => some t) | _ => none
def chkLd (all : Array Oper) (k : Option Nat) (o : Oper) : Bool := !(isLoad o) || all.toList.all fun b => match stN all b with
  | some t => (match k with | some k => !(Nat.beq k t) | none => true) || (ldT o == some t)
  | none => true
def chkSt (all : Array Oper) (o : Oper) (k : Nat) : Bool := match stN all o with | some t => Nat.beq k t | none => true
def exempt (ex : Bool) (all : Array Oper) (a b : Oper) : Bool := ex && isLoad a && (match stN all b with | some t => !(ldT a == some t) | none => false)
theorem exempt_load {ex : Bool} {all : Array Oper} {a b : Oper} (h : (ex && isLoad a) = false) : exempt ex all a b = false := by unfold exempt; rw [h]; rfl
theorem chkV_spec {all : Array Oper} {x : V} (h : chkV all x = true) {k : Nat} (hk : k ∈ allocKeys all) : x.noKey k = true := by
  cases x with
  | d x => rfl
  | _ => simp only [chkV, List.all_eq_true] at h; exact h k hk
theorem chkB_spec {all : Array Oper} {b : Blk} (h : chkB all b = true) {k : Nat} (hk : k ∈ allocKeys all) : b.noKey k = true := by
  cases b with
  | data => rfl
  | _ => simp only [chkB, List.all_eq_true] at h; exact h k hk
theorem mem_allocKeys {all : Array Oper} {i : Nat} {o : Oper} {d : Tmp} (h : all[i]? = some o) (ha : isAlloc o = true) (hd : o.dst = some d) : d ∈ allocKeys all := by
  unfold allocKeys
  rw [List.mem_filterMap]
  refine ⟨o, ?_, ?_⟩
  · have := List.mem_of_getElem? (show all.toList[i]? = some o by simpa using h)
    exact this
  · unfold isAlloc at ha
    split at ha
    · rename_i e; exact hd
    · cases ha

structure More (s s' : St) : Prop where
  bl : ∀ k b, s.blk k = some b → s'.blk k = some b
  ln : s'.ln = s.ln
theorem More.refl (s : St) : More s s := ⟨fun _ _ h => h, rfl⟩
theorem M1.more {X : Ctx} {all : Array Oper} {s s' : St} {o : Oper} {x : V} (hb : More s s') (h : ∀ t ∈ o.looksAt all, s'.tmps t = s.tmps t) (hm : M1 X all s o x) : M1 X all s' o x := fun io F a w ht hbl hF K Q hK => by
  have hk : s'.keys io = s.keys io := by simp only [St.keys, hb.ln]
  rw [hk] at ht hbl
  refine hm io F a w (fun t htt => by rw [← h t htt]; exact ht t htt) (fun k b e => hbl k b (hb.bl k b e)) hF K Q fun F' w' v h1 h2 h3 h4 => hK F' w' v h1 h2 h3 (by rw [hk]; exact h4)

def S1 (X : Ctx) (all : Array Oper) (s : St) (o : Oper) (k : Nat) (b : Blk) : Prop :=
  ∀ s' : St, More s s' → s'.dfs = s.dfs → (∀ t ∈ o.looksAt all, s'.tmps t = s.tmps t) → E1 X all s' o (s'.withBlk k b)
def A1 (X : Ctx) (all : Array Oper) (o : Oper) (d : Tmp) (b : Blk) : Prop :=
  ∀ s' : St, FreeSt d s' → E1 X all s' o ((s'.withBlk d b).put (some d) (.ptr d 0))

inductive PRun (ex : Bool) (X : Ctx) (all : Array Oper) : List Oper → St → St → Prop
  | nil {s : St} : PRun ex X all [] s s
  | cons {o : Oper} {rest : List Oper} {s s' : St} {x : V} (hd : dstOk X.N o.dst = true) (h : M1 X all s o x) (hm : isMove o = true → ∀ s' : St, (∀ t ∈ o.looksAt all, s'.tmps t = s.tmps t) → M1 X all s' o x) (hna : isAlloc o = false) (hf : chkV all x = true) (hl : isLoad o = true → ∀ s' : St, (∀ t ∈ o.looksAt all, s'.tmps t = s.tmps t) → (∀ k b, keyOf s o = some k → s.blk k = some b → s'.blk k = some b) → M1 X all s' o x) (hx : ex = true → chkLd all (keyOf s o) o = true) (k : PRun ex X all rest (s.put o.dst x) s') : PRun ex X all (o :: rest) s s'
  | store {o : Oper} {rest : List Oper} {s s' : St} {k : Nat} {b b0 : Blk} (hs : isStore o = true) (hd : o.dst = none) (hk : s.blk k = some b0) (hl : b.ln = b0.ln) (hkk : chkK all o k = true) (hf : chkB all b = true) (h : S1 X all s o k b) (hx : ex = true → chkSt all o k = true) (kk : PRun ex X all rest (s.withBlk k b) s') : PRun ex X all (o :: rest) s s'
  | alloc {o : Oper} {rest : List Oper} {s s' : St} {d : Tmp} {b : Blk} (ha : isAlloc o = true) (hd : o.dst = some d) (hn : s.blk d = none) (hl : b.ln = 0) (hf : chkB all b = true) (h : A1 X all o d b) (k : PRun ex X all rest ((s.withBlk d b).put (some d) (.ptr d 0)) s') : PRun ex X all (o :: rest) s s'

def looksB (all : Array Oper) (o : Oper) (d : Option Tmp) : Bool := match d with | some d => (o.looksAt all).any (· == d) | none => false
def freshAt (ops : Array Oper) (n i : Nat) (b : Oper) : Bool := match b.op with
  | .store _ (.tmp d) _ => (List.range n).any fun c => Nat.blt i c && (match ops[c]? with | some o => isAlloc o && (o.dst == some d) | none => false)
  | _ => false
def confl (ex : Bool) (all : Array Oper) (n i : Nat) (a b : Oper) : Bool :=
  looksB all b a.dst || looksB all a b.dst || (match a.dst, b.dst with | some x, some y => x == y | _, _ => false) || ((isStore a || isAlloc a) && !(isMove b) && !(isAlloc b) && !(exempt ex all b a)) || (isStore b && !(isMove a) && !(freshAt all n i b) && !(exempt ex all a b))
def ordOk (ex : Bool) (ops : Array Oper) (n : Nat) : Bool :=
  backward ops && Nat.ble n ops.size &&
  ((List.range n).all fun j => match ops[j]? with
    | some b => (List.range j).all fun i => match ops[i]? with
      | some a => !(confl ex ops n i a b) || ((masks ops.toList []).getD j 0).testBit i
      | none => false
    | none => false) &&
  ((List.range ops.size).all fun i => Nat.blt i n || Nat.beq ((masks ops.toList []).getD i 0) (2 ^ i - 1))

structure OrdFacts (ex : Bool) (ops : Array Oper) (n : Nat) : Prop where
  tf : TailFacts ops n
  ord : ∀ i j a b, i < j → j < n → ops[i]? = some a → ops[j]? = some b → confl ex ops n i a b = true → ((masks ops.toList []).getD j 0).testBit i = true

theorem ordOk_spec {ex : Bool} {ops : Array Oper} {n : Nat} (h : ordOk ex ops n = true) : OrdFacts ex ops n := by
  simp only [ordOk, Bool.and_eq_true] at h
  obtain ⟨⟨⟨hb, hle⟩, hm⟩, ht⟩ := h
  refine ⟨⟨fun i o hi e he hbind => ?_, Nat.le_of_ble_eq_true hle, fun i h1 h2 j hj => ?_⟩, fun i j a b hij hj ha hb' hc => ?_⟩
  · simp only [backward, List.all_eq_true, List.mem_range] at hb
    have := hb i (Array.getElem?_eq_some_iff.1 hi).1
    rw [hi] at this
    simp only [List.all_eq_true] at this
    have := this e (by simpa using he)
    rw [hbind] at this
    simpa [Nat.blt_eq] using this
  · simp only [List.all_eq_true, List.mem_range] at ht
    have h3 := ht i h2
    have hnb : Nat.blt i n = false := by
      cases hq : Nat.blt i n with
      | false => rfl
      | true => have : i < n := by simpa [Nat.blt_eq] using hq
                omega
    rw [hnb, Bool.false_or] at h3
    have h4 := Nat.eq_of_beq_eq_true h3
    rw [h4, Nat.testBit_two_pow_sub_one]
    simpa using hj
  · simp only [List.all_eq_true, List.mem_range] at hm
    have h1 := hm j hj
    rw [hb'] at h1
    simp only [List.all_eq_true, List.mem_range] at h1
    have h2 := h1 i hij
    rw [ha] at h2
    simp only [hc, Bool.not_true, Bool.false_or] at h2
    exact h2

def accSt (s : St) (us : Nat → Upd) (L : Nat → Bool) : Nat → St
  | 0 => s
  | n + 1 => bif L n then apU (accSt s us L n) (us n) else accSt s us L n

section
variable {s : St} {us : Nat → Upd}
theorem put_tmps_ne {s : St} {d : Option Tmp} {x : V} {t : Tmp} (h : d ≠ some t) : (s.put d x).tmps t = s.tmps t := by
  cases d with
  | none => rfl
  | some d =>
    simp only [St.put]
    cases hb : Nat.beq t d with
    | true => exact absurd (by rw [Nat.eq_of_beq_eq_true hb]) h
    | false => rfl
theorem apU_dfs (s : St) (u : Upd) : (apU s u).dfs = s.dfs := by
  cases u with
  | reg d x => exact put_dfs _ _ _
  | blk k b => rfl
  | box d b => rfl
theorem apU_tmps {s : St} {u : Upd} {t : Tmp} (h : u.dst ≠ some t) : (apU s u).tmps t = s.tmps t := by
  cases u with
  | reg d x => exact put_tmps_ne h
  | blk k b => rfl
  | box d b => exact put_tmps_ne h
theorem apU_blk {s : St} {u : Upd} {k : Nat} (h : u.key ≠ some k) : (apU s u).blk k = s.blk k := by
  cases u with
  | reg d x => simp only [apU]; rw [put_blk]
  | blk k' b => exact withBlk_ne fun e => h (by rw [e]; rfl)
  | box d b => simp only [apU]; rw [put_blk]; exact withBlk_ne fun e => h (by rw [e]; rfl)
theorem acc_dfs (L : Nat → Bool) : ∀ n, (accSt s us L n).dfs = s.dfs
  | 0 => rfl
  | n + 1 => by
    simp only [accSt]
    cases L n with
    | true => simp only [cond_true]; rw [apU_dfs, acc_dfs]
    | false => simp only [cond_false]; exact acc_dfs L n
theorem acc_tmps {L L' : Nat → Bool} {t : Nat} : ∀ n, (∀ i, i < n → (us i).dst = some t → L i = L' i) → (accSt s us L n).tmps t = (accSt s us L' n).tmps t
  | 0, _ => rfl
  | n + 1, h => by
    have ih := acc_tmps (L := L) (L' := L') n fun i hi => h i (by omega)
    simp only [accSt]
    by_cases hw : (us n).dst = some t
    · rw [h n (by omega) hw]
      cases L' n with
      | true =>
        simp only [cond_true]
        cases hu : us n with
        | reg d x => rw [hu] at hw; simp only [Upd.dst] at hw; subst hw; simp only [apU, St.put, Nat.beq_refl, cond_true]
        | blk k b => rw [hu] at hw; cases hw
        | box d b => rw [hu] at hw; simp only [Upd.dst, Option.some.injEq] at hw; subst hw; simp only [apU, St.put, Nat.beq_refl, cond_true]
      | false => simpa using ih
    · have e : ∀ (b : Bool) (s0 : St), (bif b then apU s0 (us n) else s0).tmps t = s0.tmps t := fun b s0 => by cases b <;> simp [apU_tmps hw]
      rw [e, e, ih]
theorem acc_blk {L L' : Nat → Bool} {k : Nat} : ∀ n, (∀ i, i < n → (us i).key = some k → L i = L' i) → (accSt s us L n).blk k = (accSt s us L' n).blk k
  | 0, _ => rfl
  | n + 1, h => by
    have ih := acc_blk (L := L) (L' := L') n fun i hi => h i (by omega)
    simp only [accSt]
    by_cases hw : (us n).key = some k
    · rw [h n (by omega) hw]
      cases L' n with
      | true =>
        simp only [cond_true]
        cases hu : us n with
        | reg d x => rw [hu] at hw; cases hw
        | blk k' b => rw [hu] at hw; simp only [Upd.key, Option.some.injEq] at hw; subst hw; simp only [apU]; rw [withBlk_same, withBlk_same]
        | box d b => rw [hu] at hw; simp only [Upd.key, Option.some.injEq] at hw; subst hw; simp only [apU]; rw [put_blk, put_blk, withBlk_same, withBlk_same]
      | false => simpa using ih
    · have e : ∀ (b : Bool) (s0 : St), (bif b then apU s0 (us n) else s0).blk k = s0.blk k := fun b s0 => by cases b <;> simp [apU_blk hw]
      rw [e, e, ih]
theorem acc_stay {L : Nat → Bool} {k : Nat} : ∀ m n, m ≤ n → (accSt s us L m).blk k ≠ none → (accSt s us L n).blk k ≠ none
  | m, 0, h, h0 => by obtain rfl : m = 0 := by omega
                      exact h0
  | m, n + 1, h, h0 => by
    by_cases e : m = n + 1
    · rw [← e]; exact h0
    · have ih := acc_stay m n (by omega) h0
      simp only [accSt]
      cases L n with
      | false => exact ih
      | true =>
        simp only [cond_true]
        by_cases hw : (us n).key = some k
        · cases hu : us n with
          | reg d x => rw [hu] at hw; cases hw
          | blk k' b => rw [hu] at hw; simp only [Upd.key, Option.some.injEq] at hw; subst hw; simp only [apU]; rw [withBlk_same]; simp
          | box d b => rw [hu] at hw; simp only [Upd.key, Option.some.injEq] at hw; subst hw; simp only [apU]; rw [put_blk, withBlk_same]; simp
        · rw [apU_blk hw]; exact ih
theorem acc_ln0 {L : Nat → Bool} {k : Nat} (h0 : s.ln k = 0) : ∀ n, (∀ i, i < n → (∀ b, us i = .blk k b → b.ln = 0) ∧ (∀ b, us i = .box k b → b.ln = 0)) → (accSt s us L n).ln k = 0
  | 0, _ => h0
  | n + 1, h => by
    have ih := acc_ln0 (L := L) h0 n fun i hi => h i (by omega)
    have key : ∀ s0 : St, s0.ln k = 0 → (apU s0 (us n)).ln k = 0 := fun s0 hs0 => by
      by_cases hw : (us n).key = some k
      · cases hu : us n with
        | reg d x => rw [hu] at hw; cases hw
        | blk k' b =>
          rw [hu] at hw; simp only [Upd.key, Option.some.injEq] at hw; subst hw
          rw [ln_of (b := b) (by simp only [apU]; rw [withBlk_same])]
          exact (h n (by omega)).1 b hu
        | box d b =>
          rw [hu] at hw; simp only [Upd.key, Option.some.injEq] at hw; subst hw
          rw [ln_of (b := b) (by simp only [apU]; rw [put_blk, withBlk_same])]
          exact (h n (by omega)).2 b hu
      · have := apU_blk (s := s0) hw
        unfold St.ln at hs0 ⊢
        rw [this]; exact hs0
    simp only [accSt]
    cases L n with
    | true => exact key _ ih
    | false => exact ih
theorem acc_free {L : Nat → Bool} {k : Nat} (h0 : FreeSt k s) : ∀ n, (∀ i, i < n → L i = true → (us i).key ≠ some k ∧ (∀ d x, us i = .reg d x → x.noKey k = true) ∧ (∀ j b, us i = .blk j b → b.noKey k = true) ∧ (∀ d b, us i = .box d b → b.noKey k = true)) → FreeSt k (accSt s us L n)
  | 0, _ => h0
  | n + 1, h => by
    have ih := acc_free (L := L) h0 n fun i hi => h i (by omega)
    simp only [accSt]
    cases hL : L n with
    | false => exact ih
    | true =>
      simp only [cond_true]
      obtain ⟨h1, h2, h3, h4⟩ := h n (by omega) hL
      refine ⟨fun t => ?_, fun j b hj => ?_, by rw [apU_dfs]; exact ih.df, by rw [apU_blk h1]; exact ih.no⟩
      · by_cases hw : (us n).dst = some t
        · cases hu : us n with
          | reg d x => rw [hu] at hw; simp only [Upd.dst] at hw; subst hw; simp only [apU, St.put, Nat.beq_refl, cond_true]; exact h2 _ _ hu
          | blk k' b => rw [hu] at hw; cases hw
          | box d b =>
            rw [hu] at hw h1; simp only [Upd.dst, Option.some.injEq] at hw; subst hw
            simp only [apU, St.put, Nat.beq_refl, cond_true, V.noKey, Bool.not_eq_true']
            cases hb : Nat.beq d k with
            | false => rfl
            | true => exact absurd (by rw [Nat.eq_of_beq_eq_true hb]; rfl) h1
        · rw [apU_tmps hw]; exact ih.tm t
      · by_cases hw : (us n).key = some j
        · cases hu : us n with
          | reg d x => rw [hu] at hw; cases hw
          | blk k' b' => rw [hu] at hw hj; simp only [Upd.key, Option.some.injEq] at hw; subst hw; simp only [apU] at hj; rw [withBlk_same] at hj; cases hj; exact h3 _ _ hu
          | box d b' => rw [hu] at hw hj; simp only [Upd.key, Option.some.injEq] at hw; subst hw; simp only [apU] at hj; rw [put_blk, withBlk_same] at hj; cases hj; exact h4 _ _ hu
        · rw [apU_blk hw] at hj; exact ih.bl j b hj

def Upd.apart (u v : Upd) : Prop := (∀ d, u.dst = some d → v.dst ≠ some d) ∧ (∀ k, u.key = some k → v.key ≠ some k)
theorem St.eta {s s' : St} (h1 : s.tmps = s'.tmps) (h2 : s.blk = s'.blk) (h3 : s.dfs = s'.dfs) : s = s' := by
  cases s; cases s'; simp only at h1 h2 h3; rw [h1, h2, h3]
theorem apU_own_tmps {s s' : St} {u : Upd} {t : Tmp} (h : u.dst = some t) : (apU s u).tmps t = (apU s' u).tmps t := by
  cases u with
  | reg d x => simp only [Upd.dst] at h; subst h; simp only [apU, St.put, Nat.beq_refl, cond_true]
  | blk k b => cases h
  | box d b => simp only [Upd.dst, Option.some.injEq] at h; subst h; simp only [apU, St.put, Nat.beq_refl, cond_true]
theorem apU_own_blk {s s' : St} {u : Upd} {k : Nat} (h : u.key = some k) : (apU s u).blk k = (apU s' u).blk k := by
  cases u with
  | reg d x => cases h
  | blk k' b => simp only [Upd.key, Option.some.injEq] at h; subst h; simp only [apU]; rw [withBlk_same, withBlk_same]
  | box d b => simp only [Upd.key, Option.some.injEq] at h; subst h; simp only [apU]; rw [put_blk, put_blk, withBlk_same, withBlk_same]
theorem apU_comm {s : St} {u v : Upd} (h : u.apart v) : apU (apU s u) v = apU (apU s v) u := by
  refine St.eta (funext fun t => ?_) (funext fun k => ?_) (by rw [apU_dfs, apU_dfs, apU_dfs, apU_dfs])
  · by_cases hv : v.dst = some t
    · have hu : u.dst ≠ some t := fun e => h.1 t e hv
      rw [apU_tmps hu]; exact apU_own_tmps hv
    · rw [apU_tmps hv]
      by_cases hu : u.dst = some t
      · exact apU_own_tmps hu
      · rw [apU_tmps hu, apU_tmps hu, apU_tmps hv]
  · by_cases hv : v.key = some k
    · have hu : u.key ≠ some k := fun e => h.2 k e hv
      rw [apU_blk hu]; exact apU_own_blk hv
    · rw [apU_blk hv]
      by_cases hu : u.key = some k
      · exact apU_own_blk hu
      · rw [apU_blk hu, apU_blk hu, apU_blk hv]
theorem acc_insert {L L' : Nat → Bool} {i : Nat} (hL : L i = false) (hL' : ∀ j, L' j = true ↔ (j = i ∨ L j = true)) : ∀ n, i < n → (∀ j, i < j → j < n → L j = true → (us i).apart (us j)) → accSt s us L' n = apU (accSt s us L n) (us i)
  | 0, h, _ => by omega
  | n + 1, h, hc => by
    have same : ∀ j, j ≠ i → L' j = L j := fun j hj => by
      cases h1 : L' j with
      | true => rcases (hL' j).1 h1 with e | e; exact absurd e hj; exact e.symm
      | false => cases h2 : L j with
        | true => have := (hL' j).2 (.inr h2); rw [h1] at this; cases this
        | false => rfl
    simp only [accSt]
    by_cases e : i = n
    · subst e
      have h1 : L' i = true := (hL' i).2 (.inl rfl)
      have h2 : accSt s us L' i = accSt s us L i := by
        have : ∀ m, m ≤ i → accSt s us L' m = accSt s us L m := by
          intro m
          induction m with
          | zero => intro _; rfl
          | succ m ih => intro hm; simp only [accSt]; rw [ih (by omega), same m (by omega)]
        exact this i (Nat.le_refl _)
      rw [h1, hL, h2]; rfl
    · rw [acc_insert hL hL' n (by omega) (fun j h1 h2 => hc j h1 (by omega)), same n (Ne.symm e)]
      cases hn : L n with
      | true => simp only [cond_true]; exact apU_comm (hc n (by omega) (by omega) hn)
      | false => rfl
end

inductive UpdOk (ex : Bool) (X : Ctx) (all : Array Oper) (s : St) (o : Oper) : Upd → Prop
  | reg {x : V} (hd : dstOk X.N o.dst = true) (h : M1 X all s o x) (hm : isMove o = true → ∀ s' : St, (∀ t ∈ o.looksAt all, s'.tmps t = s.tmps t) → M1 X all s' o x) (hna : isAlloc o = false) (hf : chkV all x = true) (hl : isLoad o = true → ∀ s' : St, (∀ t ∈ o.looksAt all, s'.tmps t = s.tmps t) → (∀ k b, keyOf s o = some k → s.blk k = some b → s'.blk k = some b) → M1 X all s' o x) (hx : ex = true → chkLd all (keyOf s o) o = true) : UpdOk ex X all s o (.reg o.dst x)
  | blk {k : Nat} {b b0 : Blk} (hs : isStore o = true) (hd : o.dst = none) (hk : s.blk k = some b0) (hl : b.ln = b0.ln) (hkk : chkK all o k = true) (hf : chkB all b = true) (h : S1 X all s o k b) (hx : ex = true → chkSt all o k = true) : UpdOk ex X all s o (.blk k b)
  | box {d : Tmp} {b : Blk} (ha : isAlloc o = true) (hd : o.dst = some d) (hn : s.blk d = none) (hl : b.ln = 0) (hf : chkB all b = true) (h : A1 X all o d b) : UpdOk ex X all s o (.box d b)

theorem prun_us {ex : Bool} {X : Ctx} {all : Array Oper} : ∀ {l : List Oper} {s s' : St}, PRun ex X all l s s' → ∃ us : Nat → Upd, s' = accSt s us (fun _ => true) l.length ∧
    ∀ i o, l[i]? = some o → UpdOk ex X all (accSt s us (fun _ => true) i) o (us i)
  | [], s, s', h => by
    cases h
    exact ⟨fun _ => .reg none (.d .undef), rfl, fun i o h => by simp at h⟩
  | o :: rest, s, s', h => by
    have shift : ∀ (u0 : Upd) (us : Nat → Upd) (m : Nat) (s0 : St), accSt s0 (fun i => match i with | 0 => u0 | i + 1 => us i) (fun _ => true) (m + 1) = accSt (apU s0 u0) us (fun _ => true) m := fun u0 us m s0 => by
      induction m with
      | zero => rfl
      | succ m ih => rw [accSt, ih]; rfl
    have fin : ∀ (u0 : Upd), UpdOk ex X all s o u0 → PRun ex X all rest (apU s u0) s' → ∃ us : Nat → Upd, s' = accSt s us (fun _ => true) (o :: rest).length ∧ ∀ i o', (o :: rest)[i]? = some o' → UpdOk ex X all (accSt s us (fun _ => true) i) o' (us i) := fun u0 h0 hk => by
      obtain ⟨us, h1, h2⟩ := prun_us hk
      refine ⟨fun i => match i with | 0 => u0 | i + 1 => us i, ?_, fun i o' hi => ?_⟩
      · rw [List.length_cons, shift, h1]
      · cases i with
        | zero => simp at hi; subst hi; exact h0
        | succ i => rw [shift]; exact h2 i o' (by simpa using hi)
    cases h with
    | cons hd hm hmv hna hf hld hx hk => exact fin _ (.reg hd hm hmv hna hf hld hx) hk
    | store hs hd hk hl hkk hf hm hx kk => exact fin _ (.blk hs hd hk hl hkk hf hm hx) kk
    | alloc ha hd hn hl hf hm k => exact fin _ (.box ha hd hn hl hf hm) k

theorem looksB_of {all : Array Oper} {o : Oper} {t : Tmp} (h : t ∈ o.looksAt all) : looksB all o (some t) = true := by
  simp only [looksB, List.any_eq_true]
  exact ⟨t, h, by simp⟩
theorem store_kind {o : Oper} (h : isStore o = true) : isMove o = false ∧ isAlloc o = false := by
  unfold isStore at h
  split at h
  · rename_i e; unfold isMove isAlloc; rw [e]; exact ⟨rfl, rfl⟩
  · cases h
theorem store_load {o : Oper} (h : isStore o = true) : isLoad o = false := by
  unfold isStore at h
  split at h
  · rename_i e; unfold isLoad; rw [e]; rfl
  · cases h
def regAny (X : Ctx) (ops : List Oper) (Q : Exit → St → Prop) (s : St) : Prop := ∀ io F a w, SR X io F s a w → wpAny X.P .any ops.toArray (lift X Q) ops.toArray.size (Array.replicate ops.toArray.size false) a { w with drawn := w.drawn + 1 }
theorem any_region_ord {ex : Bool} {X : Ctx} {ops : List Oper} (n : Nat) (hok : ordOk ex ops.toArray n = true) {Q : Exit → St → Prop} {sx s1 : St} (hKs : ((allocKeys ops.toArray).all fun k => !(X.K.contains k)) = true) (hrun : PRun ex X ops.toArray (ops.take n) (sx.kills (allocKeys ops.toArray)) s1) (htail : awpL X ops.toArray (ops.drop n) Q s1) : regAny X ops Q sx := by
  intro io0 F0 a0 w0 hs0
  obtain ⟨io, hs⟩ := SR.kills (allocKeys ops.toArray) io0 (fun k hk => by
    simp only [List.all_eq_true] at hKs
    have := hKs k hk
    simpa [List.contains_eq_mem] using this) hs0
  have hfree := FreeSt.kills (s := sx) (allocKeys ops.toArray)
  generalize sx.kills (allocKeys ops.toArray) = s at hs hfree hrun
  have hf := ordOk_spec hok
  obtain ⟨us, hs1, hx⟩ := prun_us hrun
  have hle := hf.tf.le
  have hsz : ops.toArray.size = ops.length := rfl
  have getop : ∀ i, i < n → (ops.take n)[i]? = ops.toArray[i]? := fun i hi => by simp [List.getElem?_take, hi]
  have hlen : (ops.take n).length = n := by simp; omega
  rw [hlen] at hs1
  have ok : ∀ i o, i < n → ops.toArray[i]? = some o → UpdOk ex X ops.toArray (accSt s us (fun _ => true) i) o (us i) := fun i o hi ho => hx i o (by rw [getop i hi]; exact ho)
  have dstOf : ∀ i o, i < n → ops.toArray[i]? = some o → (us i).dst = o.dst := fun i o hi ho => by
    have := ok i o hi ho
    generalize us i = u at this
    cases this with
    | reg => rfl
    | blk _ hd => exact hd.symm
    | box _ hd => exact hd.symm
  have full : ∀ i, i ≤ n → accSt s us (fun _ => true) i = accSt s us (fun j => decide (j < i)) i := fun i hi => by
    have : ∀ m, m ≤ i → accSt s us (fun _ => true) m = accSt s us (fun j => decide (j < i)) m := by
      intro m
      induction m with
      | zero => intro _; rfl
      | succ m ih => intro hm; simp only [accSt]; rw [ih (by omega)]; simp [show m < i by omega]
    exact this i (Nat.le_refl _)
  have ext : ∀ i, i ≤ n → accSt s us (fun j => decide (j < i)) n = accSt s us (fun j => decide (j < i)) i := fun i hi => by
    have : ∀ m, i ≤ m → m ≤ n → accSt s us (fun j => decide (j < i)) m = accSt s us (fun j => decide (j < i)) i := by
      intro m
      induction m with
      | zero => intro h1 _; obtain rfl : i = 0 := by omega
                rfl
      | succ m ih =>
        intro h1 h2
        by_cases e : i = m + 1
        · rw [e]
        · simp only [accSt]; rw [ih (by omega) (by omega)]; simp [show ¬ m < i by omega]
    exact this n hi (Nat.le_refl _)
  have getn : ∀ j, j < n → ∃ o, ops.toArray[j]? = some o := fun j hj => ⟨_, Array.getElem?_eq_getElem (by omega)⟩
  -- a variable that is made at place j was not there before
  have young : ∀ j d b, j < n → us j = .box d b → ∀ m, m ≤ j → (accSt s us (fun _ => true) m).blk d = none := fun j d b hj hu m hmj => by
    obtain ⟨o, ho⟩ := getn j hj
    have := ok j o hj ho
    rw [hu] at this
    cases this with
    | box ha hd hn =>
      cases h : (accSt s us (fun _ => true) m).blk d with
      | none => rfl
      | some bb => exact absurd hn (acc_stay m j hmj (by rw [h]; simp))
  have old : ∀ j k b, j < n → us j = .blk k b → ∀ c d bb, c < n → us c = .box d bb → k = d → c < j := fun j k b hj hu c d bb hc huc e => by
    refine Nat.lt_of_not_le fun h => ?_
    obtain ⟨o, ho⟩ := getn j hj
    have := ok j o hj ho
    rw [hu] at this
    cases this with
    | blk _ _ hk => rw [e, young c d bb hc huc j h] at hk; cases hk
  have twin : ∀ i j d b bb, i < n → j < n → us i = .box d b → us j = .box d bb → i = j := fun i j d b bb hi hj hui huj => by
    rcases Nat.lt_trichotomy i j with h | h | h
    · have h1 := young j d bb hj huj (i + 1) (by omega)
      simp only [accSt, cond_true, hui, apU] at h1
      rw [put_blk, withBlk_same] at h1; cases h1
    · exact h
    · have h1 := young i d b hi hui (j + 1) (by omega)
      simp only [accSt, cond_true, huj, apU] at h1
      rw [put_blk, withBlk_same] at h1; cases h1
  -- lengths of the region's own variables
  have ln0 : ∀ c d b, c < n → us c = .box d b → ∀ (L : Nat → Bool) m, m ≤ n → (accSt s us L m).ln d = 0 := fun c d b hc huc => by
    have hmem : s.ln d = 0 := by
      have := young c d b hc huc 0 (by omega)
      simp only [accSt] at this
      unfold St.ln; rw [this]
    have hT : ∀ m, m ≤ n → (∀ i, i < m → (∀ bb, us i = .blk d bb → bb.ln = 0) ∧ (∀ bb, us i = .box d bb → bb.ln = 0)) := by
      intro m
      induction m with
      | zero => intro _ i hi; omega
      | succ m ih =>
        intro hm i hi
        by_cases e : i = m
        · subst e
          obtain ⟨o, ho⟩ := getn i (by omega)
          have hoki := ok i o (by omega) ho
          refine ⟨fun bb hu => ?_, fun bb hu => ?_⟩
          · rw [hu] at hoki
            cases hoki with
            | blk _ _ hk hl =>
              rw [hl, ← ln_of hk]
              exact acc_ln0 hmem i (ih (by omega))
          · rw [hu] at hoki
            cases hoki with
            | box _ _ _ hl => exact hl
        · exact ih (by omega) i (by omega)
    exact fun L m hmn => acc_ln0 hmem m (hT m hmn)
  -- one operation, where its forerunners have been
  have step : ∀ (L : Nat → Bool) (i : Nat) (o : Oper), i < n → ops.toArray[i]? = some o → L i = false → (∀ j, L j = true → j < n) → (∀ j, j < i → ((masks ops.toArray.toList []).getD i 0).testBit j = true → L j = true) → (∀ j, L j = true → ∀ k, ((masks ops.toArray.toList []).getD j 0).testBit k = true → L k = true) →
      ∀ (io : Nat → Option Nat) (F : Nat → Prop) (a : Act) (w : World), SR X io F (accSt s us L n) a w → ∀ (K : Act → World → Prop) (Q : Exit → Act → World → Prop), (∀ io' F' a' w', SR X io' F' (apU (accSt s us L n) (us i)) a' w' → K a' w') → opWp X.P ops.toArray o a w K Q := by
    intro L i o hi ho hLi hLn hLp hLc io F a w hsr K Q hK
    have early : ∀ j b, j < i → ops.toArray[j]? = some b → confl ex ops.toArray n j b o = true → L j = true := fun j b h hb hc => hLp j h (hf.ord j i b o h hi hb ho hc)
    have late : ∀ j b, i < j → j < n → ops.toArray[j]? = some b → confl ex ops.toArray n i o b = true → L j = false := fun j b h hj hb hc => by
      cases hL : L j with
      | false => rfl
      | true =>
        have := hLc j hL i (hf.ord i j o b h hj ho hb hc)
        rw [hLi] at this; cases this
    have htm : ∀ t ∈ o.looksAt ops.toArray, (accSt s us L n).tmps t = (accSt s us (fun _ => true) i).tmps t := fun t ht => by
      rw [full i (by omega), ← ext i (by omega)]
      refine acc_tmps n fun j hj hu => ?_
      obtain ⟨b, hb⟩ := getn j hj
      have hd : b.dst = some t := by rw [← dstOf j b hj hb]; exact hu
      have hl := looksB_of ht
      rcases Nat.lt_trichotomy j i with h | h | h
      · rw [decide_eq_true h]; exact early j b h hb (by simp [confl, hd, hl])
      · subst h; rw [hLi, decide_eq_false (by omega)]
      · rw [decide_eq_false (by omega)]; exact late j b h hj hb (by simp [confl, hd, hl])
    -- what a later variable of the region is written through
    have freshKey : ∀ j b k' bb, j < n → ops.toArray[j]? = some b → us j = .blk k' bb → freshAt ops.toArray n i b = true → ∃ c b2, i < c ∧ c < n ∧ us c = .box k' b2 := fun j b k' bb hj hb huj hfr => by
      have hokj := ok j b hj hb
      rw [huj] at hokj
      cases hokj with
      | blk hst hd hkb hl hkk =>
        unfold freshAt at hfr
        split at hfr
        · rename_i t0 d x0 hop
          simp only [List.any_eq_true, List.mem_range, Bool.and_eq_true, Nat.blt_eq] at hfr
          obtain ⟨c, hcn, hic, hc⟩ := hfr
          split at hc
          · rename_i oc hoc
            simp only [Bool.and_eq_true, beq_iff_eq] at hc
            have hmem := mem_allocKeys hoc hc.1 hc.2
            have hkd : k' = d := by
              unfold chkK at hkk
              rw [hop] at hkk
              simp only [Bool.or_eq_true, Bool.not_eq_true', List.contains_eq_mem, decide_eq_false_iff_not] at hkk
              rcases hkk with h1 | h1
              · exact absurd hmem h1
              · exact Nat.eq_of_beq_eq_true h1
            subst hkd
            have hokc := ok c oc hcn hoc
            cases huc : us c with
            | reg d x => rw [huc] at hokc; cases hokc with | reg _ _ _ hna => rw [hc.1] at hna; cases hna
            | blk k2 b2 => rw [huc] at hokc; cases hokc with | blk hs2 => have := (store_kind hs2).2; rw [hc.1] at this; cases this
            | box d2 b2 =>
              rw [huc] at hokc
              cases hokc with
              | box _ hd2 =>
                rw [hc.2] at hd2
                cases hd2
                exact ⟨c, b2, hic, hcn, huc⟩
          · cases hc
        · cases hfr
    have hmore : isMove o = false → isAlloc o = false → (ex && isLoad o) = false → More (accSt s us (fun _ => true) i) (accSt s us L n) := fun hmv hal hel => by
      have hex : ∀ b, exempt ex ops.toArray o b = false := fun b => exempt_load hel
      have same : ∀ k, (∀ c d b, i < c → c < n → us c = .box d b → k ≠ d) → (accSt s us L n).blk k = (accSt s us (fun _ => true) i).blk k := fun k hk => by
        rw [full i (by omega), ← ext i (by omega)]
        refine acc_blk n fun j hj hu => ?_
        obtain ⟨b, hb⟩ := getn j hj
        have hokj := ok j b hj hb
        rcases Nat.lt_trichotomy j i with h | h | h
        · rw [decide_eq_true h]
          refine early j b h hb ?_
          cases huj : us j with
          | reg d x => rw [huj] at hu; cases hu
          | blk k' bb => rw [huj] at hokj; cases hokj with | blk hst => simp [confl, hst, hmv, hal, hex]
          | box d bb => rw [huj] at hokj; cases hokj with | box ha => simp [confl, ha, hmv, hal, hex]
        · subst h; rw [hLi, decide_eq_false (by omega)]
        · rw [decide_eq_false (by omega)]
          cases huj : us j with
          | reg d x => rw [huj] at hu; cases hu
          | blk k' bb =>
            rw [huj] at hokj hu
            simp only [Upd.key, Option.some.injEq] at hu
            subst hu
            cases hokj with
            | blk hst hd hkb hl hkk =>
              cases hfr : freshAt ops.toArray n i b with
              | false => exact late j b h hj hb (by simp [confl, hst, hmv, hfr, hex])
              | true =>
                obtain ⟨c, b2, hic, hcn, huc⟩ := freshKey j b k' bb hj hb huj hfr
                exact absurd rfl (hk c _ b2 hic hcn huc)
          | box d bb =>
            rw [huj] at hu
            simp only [Upd.key, Option.some.injEq] at hu
            exact absurd hu.symm (hk j d bb h hj huj)
      refine ⟨fun k b hb => ?_, funext fun k => ?_⟩
      · by_cases hk : ∀ c d bb, i < c → c < n → us c = .box d bb → k ≠ d
        · rw [same k hk]; exact hb
        · exfalso
          simp only [Classical.not_forall, Classical.not_not] at hk
          obtain ⟨c, d, bb, h1, h2, h3, h4⟩ := hk
          subst h4
          rw [young c _ bb h2 h3 i (by omega)] at hb; cases hb
      · by_cases hk : ∀ c d bb, i < c → c < n → us c = .box d bb → k ≠ d
        · unfold St.ln; rw [same k hk]
        · simp only [Classical.not_forall, Classical.not_not] at hk
          obtain ⟨c, d, bb, h1, h2, h3, h4⟩ := hk
          subst h4
          rw [ln0 c _ bb h2 h3 L n (Nat.le_refl _), ln0 c _ bb h2 h3 _ i (by omega)]
    have hoki := ok i o hi ho
    cases hui : us i with
    | reg d x =>
      rw [hui] at hoki hK
      cases hoki with
      | reg hd hmo hmv hna hfx hld hxx =>
        have hM : M1 X ops.toArray (accSt s us L n) o x := by
          cases hb : isMove o with
          | true => exact hmv hb _ htm
          | false =>
            cases hel : (ex && isLoad o) with
            | false => exact M1.more (hmore hb hna hel) htm hmo
            | true =>
              rw [Bool.and_eq_true] at hel
              refine hld hel.2 _ htm fun k b hkey hblk => ?_
              have hlc := hxx hel.1
              have e : (accSt s us L n).blk k = (accSt s us (fun _ => true) i).blk k := by
                rw [full i (by omega), ← ext i (by omega)]
                refine acc_blk n fun j hj hu => ?_
                obtain ⟨b', hb'⟩ := getn j hj
                have hokj := ok j b' hj hb'
                cases huj : us j with
                | reg d' x' => rw [huj] at hu; cases hu
                | blk k' bb =>
                  rw [huj] at hokj hu
                  simp only [Upd.key, Option.some.injEq] at hu
                  subst hu
                  cases hokj with
                  | blk hst hd2 hkb hl2 hkk hf2 h2 hx2 =>
                    have hnx : exempt ex ops.toArray o b' = false := by
                      unfold exempt
                      cases hsn : stN ops.toArray b' with
                      | none => simp
                      | some t =>
                        have hs1 := hx2 hel.1
                        unfold chkSt at hs1
                        rw [hsn] at hs1
                        have hkt : k' = t := Nat.eq_of_beq_eq_true hs1
                        unfold chkLd at hlc
                        rw [hel.2] at hlc
                        simp only [Bool.not_true, Bool.false_or, List.all_eq_true] at hlc
                        have hmem : b' ∈ ops.toArray.toList := by
                          have := List.mem_of_getElem? (show ops.toArray.toList[j]? = some b' by simpa using hb')
                          exact this
                        have h3 := hlc b' hmem
                        rw [hsn, hkey] at h3
                        simp only [hkt, Nat.beq_refl, Bool.not_true, Bool.false_or] at h3
                        simp [h3]
                    rcases Nat.lt_trichotomy j i with h | h | h
                    · rw [decide_eq_true h]
                      exact early j b' h hb' (by simp [confl, hst, hb, hna, hnx])
                    · subst h; rw [hui] at huj; cases huj
                    · rw [decide_eq_false (by omega)]
                      cases hfr : freshAt ops.toArray n i b' with
                      | false => exact late j b' h hj hb' (by simp [confl, hst, hb, hfr, hnx])
                      | true =>
                        obtain ⟨c, b2, hic, hcn, huc⟩ := freshKey j b' k' bb hj hb' huj hfr
                        rw [young c _ b2 hcn huc i (by omega)] at hblk; cases hblk
                | box d2 bb =>
                  rw [huj] at hokj hu
                  simp only [Upd.key, Option.some.injEq] at hu
                  subst hu
                  rcases Nat.lt_trichotomy j i with h | h | h
                  · rw [decide_eq_true h]
                    cases hokj with
                    | box ha =>
                      have hns : stN ops.toArray b' = none := by
                        unfold isAlloc at ha
                        unfold stN
                        split at ha
                        · rename_i e1; rw [e1]
                        · cases ha
                      have hnx : exempt ex ops.toArray o b' = false := by unfold exempt; rw [hns]; simp
                      exact early j b' h hb' (by simp [confl, ha, hb, hna, hnx])
                  · subst h; rw [hui] at huj; cases huj
                  · rw [young j _ bb hj huj i (by omega)] at hblk; cases hblk
              rw [e]; exact hblk
        exact m1_sound hsr hd hM fun F' a' w' hs' => hK io F' a' w' hs'
    | blk k b =>
      rw [hui] at hoki hK
      cases hoki with
      | blk hst hd hk hl hkk hfb h =>
        have hkd := store_kind hst
        exact h (accSt s us L n) (hmore hkd.1 hkd.2 (by rw [store_load hst, Bool.and_false])) (by rw [acc_dfs, acc_dfs]) htm io F a w hsr K Q fun io' F' a' w' hs' => hK io' F' a' w' hs'
    | box d b =>
      rw [hui] at hoki hK
      cases hoki with
      | box ha hd hn hl hfb h =>
        have hmem := mem_allocKeys ho ha hd
        refine h (accSt s us L n) (acc_free (hfree d hmem) n fun j hj hL => ?_) io F a w hsr K Q fun io' F' a' w' hs' => hK io' F' a' w' hs'
        obtain ⟨b', hb'⟩ := getn j hj
        have hokj := ok j b' hj hb'
        refine ⟨fun hkey => ?_, fun d' x hu => ?_, fun k' bb hu => ?_, fun d' bb hu => ?_⟩
        · cases huj : us j with
          | reg d' x => rw [huj] at hkey; cases hkey
          | blk k' bb =>
            rw [huj] at hkey hokj
            simp only [Upd.key, Option.some.injEq] at hkey
            have hlt := old j k' bb hj huj i d b hi hui hkey
            cases hokj with
            | blk hst =>
              have hkd := store_kind hst
              have := late j b' hlt hj hb' (by simp [confl, ha, hkd.1, hkd.2, exempt_load (ex := ex) (all := ops.toArray) (a := b') (b := o) (by rw [store_load hst, Bool.and_false])])
              rw [hL] at this; cases this
          | box d' bb =>
            rw [huj] at hkey
            simp only [Upd.key, Option.some.injEq] at hkey
            subst hkey
            have := twin i j _ b bb hi hj hui huj
            subst this
            rw [hLi] at hL; cases hL
        · rw [hu] at hokj; cases hokj with | reg _ _ _ _ hfx => exact chkV_spec hfx hmem
        · rw [hu] at hokj; cases hokj with | blk _ _ _ _ _ hfx => exact chkB_spec hfx hmem
        · rw [hu] at hokj; cases hokj with | box _ _ _ _ hfx => exact chkB_spec hfx hmem
  have congrL : ∀ (L L' : Nat → Bool) m, m ≤ n → (∀ j, j < m → L j = L' j) → accSt s us L m = accSt s us L' m := by
    intro L L' m
    induction m with
    | zero => intro _ _; rfl
    | succ m ih => intro h1 h2; simp only [accSt]; rw [ih (by omega) (fun j hj => h2 j (by omega)), h2 m (by omega)]
  have key : ∀ (u fuel : Nat) (listed : Array Bool) (io : Nat → Option Nat) (F : Nat → Prop) (a : Act) (w : World), (List.range n).countP (fun j => !listed.getD j false) ≤ u → u + (ops.toArray.size - n) ≤ fuel → listed.size = ops.toArray.size →
      (∀ j, listed.getD j false = true → j < n) → (∀ i o, ops.toArray[i]? = some o → listed.getD i false = true → ∀ e ∈ o.after, Region.binds .any e = true → listed.getD e.on false = true) →
      SR X io F (accSt s us (fun j => listed.getD j false) n) a w → wpAny X.P .any ops.toArray (lift X Q) fuel listed a w := by
    intro u
    induction u with
    | zero =>
      intro fuel listed io F a w hu hfu hsize htl hcl hsr
      have hall : ∀ j, j < n → listed.getD j false = true := fun j hj => by
        have := List.countP_eq_zero.1 (Nat.le_zero.1 hu) j (by simpa using hj)
        simpa using this
      refine wpAny_tail hf.tf (ops.toArray.size - n) n fuel listed a w (Nat.le_refl _) (by omega) (by omega) hsize (fun j => ⟨htl j, hall j⟩) ?_
      have heq : accSt s us (fun j => listed.getD j false) n = s1 := by
        rw [hs1]
        exact congrL _ _ n (Nat.le_refl _) fun j hj => hall j hj
      rw [heq] at hsr
      exact htail _ _ _ _ hsr
    | succ u ih =>
      intro fuel listed io F a w hu hfu hsize htl hcl hsr
      by_cases hall : ∀ j, j < n → listed.getD j false = true
      · have h0 : (List.range n).countP (fun j => !listed.getD j false) = 0 := List.countP_eq_zero.2 fun j hj => by simp only [List.mem_range] at hj; simp [hall j hj]
        exact ih fuel listed io F a w (by omega) (by omega) hsize htl hcl hsr
      · have hex : ∃ j, j < n ∧ listed.getD j false ≠ true ∧ ∀ k, k < j → listed.getD k false = true := by
          have : ∃ j, j < n ∧ listed.getD j false ≠ true := by
            rcases Classical.em (∃ j, j < n ∧ listed.getD j false ≠ true) with h | h
            · exact h
            · exact absurd (fun j hj => Classical.byContradiction fun hne => h ⟨j, hj, hne⟩) hall
          obtain ⟨j, hj⟩ := this
          induction j using Nat.strongRecOn with
          | _ j ihj =>
            by_cases hk : ∃ k, k < j ∧ listed.getD k false ≠ true
            · obtain ⟨k, hk1, hk2⟩ := hk
              exact ihj k hk1 ⟨by omega, hk2⟩
            · exact ⟨j, hj.1, hj.2, fun k hk1 => Classical.byContradiction fun h => hk ⟨k, hk1, h⟩⟩
        obtain ⟨j0, hj0, hnl, hless⟩ := hex
        cases fuel with
        | zero => omega
        | succ fuel =>
          obtain ⟨o0, ho0⟩ := getn j0 hj0
          have hready0 : j0 ∈ Region.ready .any ops.toArray listed := mem_ready.2 ⟨by
              simp [show j0 < listed.size by omega] at hnl ⊢
              exact hnl, o0, ho0, fun e he hb => hless _ (hf.tf.back j0 o0 ho0 e he hb)⟩
          refine ⟨fun hnil => (by rw [hnil] at hready0; cases hready0), fun i hi => ?_⟩
          obtain ⟨h0, o, ho, hpre⟩ := mem_ready.1 hi
          have hilt := (Array.getElem?_eq_some_iff.1 ho).1
          have hspec : ∀ j, ((masks ops.toArray.toList []).getD i 0).testBit j = true → listed.getD j false = true ∨ j = i := fun j hbit =>
            masks_spec (fun j => listed.getD j false = true ∨ j = i) ops.toArray.toList [] 0 rfl (fun i h => by simp at h) (fun k' o' h1 h2 e he hb => by
              rcases h2 with h2 | h2
              · left; exact hcl k' o' (by simpa using h1) (by simpa using h2) e he hb
              · left
                simp only [Nat.zero_add] at h2
                subst h2
                have : o' = o := by
                  have h1' : ops.toArray[k']? = some o' := by simpa using h1
                  rw [ho] at h1'; cases h1'; rfl
                subst this
                exact hpre e he hb) (fun k' o' h1 e he hb => by simpa using hf.tf.back k' o' (by simpa using h1) e he hb) i (.inr rfl) j hbit
          have hin : i < n := by
            rcases Nat.lt_or_ge i n with h' | h'
            · exact h'
            · rcases hspec j0 (hf.tf.tail i h' hilt j0 (by omega)) with h | h
              · exact absurd h hnl
              · omega
          have hclm : ∀ j, listed.getD j false = true → ∀ k, ((masks ops.toArray.toList []).getD j 0).testBit k = true → listed.getD k false = true := fun j hj k hk =>
            masks_spec (fun j => listed.getD j false = true) ops.toArray.toList [] 0 rfl (fun i h => by simp at h) (fun k' o' h1 h2 e he hb => hcl k' o' (by simpa using h1) (by simpa using h2) e he hb) (fun k' o' h1 e he hb => by simpa using hf.tf.back k' o' (by simpa using h1) e he hb) j hj k hk
          have hunl : listed.getD i false = false := by
            simp [show i < listed.size by omega] at h0 ⊢
            exact h0
          have hs2 := step (fun j => listed.getD j false) i o hin ho hunl htl (fun j hji hbit => by
            rcases hspec j hbit with h | h
            · exact h
            · omega) hclm io F a w hsr (wpAny X.P .any ops.toArray (lift X Q) fuel (listed.setIfInBounds i true)) (lift X Q) fun io' F' a' w' hs' => by
            have hins : accSt s us (fun j => (listed.setIfInBounds i true).getD j false) n = apU (accSt s us (fun j => listed.getD j false) n) (us i) := acc_insert hunl (fun j => by
                by_cases e : j = i
                · subst e; simp [getD_set_self (show j < listed.size by omega)]
                · rw [getD_set_ne false (Ne.symm e)]; simp [e]) n hin (fun j hij hjn hLj => by
                obtain ⟨b, hb⟩ := getn j hjn
                have hnc : confl ex ops.toArray n i o b = false := by
                  cases hc : confl ex ops.toArray n i o b with
                  | false => rfl
                  | true =>
                    have := hclm j hLj i (hf.ord i j o b hij hjn ho hb hc)
                    rw [hunl] at this; cases this
                simp only [confl, Bool.or_eq_false_iff] at hnc
                obtain ⟨⟨⟨⟨_, _⟩, h3⟩, h4⟩, h5⟩ := hnc
                have hoki := ok i o hin ho
                have hokj := ok j b hjn hb
                refine ⟨fun d hd hd' => ?_, fun k hk hk' => ?_⟩
                · rw [dstOf i o hin ho] at hd
                  rw [dstOf j b hjn hb] at hd'
                  rw [hd, hd'] at h3
                  simp at h3
                · cases hui : us i with
                  | reg d x => rw [hui] at hk; cases hk
                  | blk k1 b1 =>
                    rw [hui] at hk hoki
                    simp only [Upd.key, Option.some.injEq] at hk
                    subst hk
                    cases huj : us j with
                    | reg d x => rw [huj] at hk'; cases hk'
                    | blk k2 b2 =>
                      rw [huj] at hokj
                      cases hoki with
                      | blk hsi => cases hokj with
                        | blk hsj =>
                          have hkd := store_kind hsj
                          rw [hsi, hkd.1, hkd.2, exempt_load (by rw [store_load hsj, Bool.and_false])] at h4
                          cases h4
                    | box d2 b2 =>
                      rw [huj] at hk'
                      simp only [Upd.key, Option.some.injEq] at hk'
                      have := old i k1 b1 hin hui j d2 b2 hjn huj hk'.symm
                      omega
                  | box d1 b1 =>
                    rw [hui] at hk hoki
                    simp only [Upd.key, Option.some.injEq] at hk
                    subst hk
                    cases huj : us j with
                    | reg d x => rw [huj] at hk'; cases hk'
                    | blk k2 b2 =>
                      rw [huj] at hokj
                      cases hoki with
                      | box hai => cases hokj with
                        | blk hsj =>
                          have hkd := store_kind hsj
                          rw [hai, hkd.1, hkd.2, exempt_load (by rw [store_load hsj, Bool.and_false])] at h4
                          simp at h4
                    | box d2 b2 =>
                      rw [huj] at hk'
                      simp only [Upd.key, Option.some.injEq] at hk'
                      subst hk'
                      have := twin i j _ b1 b2 hin hjn hui huj
                      omega)
            rw [← hins] at hs'
            refine ih fuel _ io' F' a' w' ?_ (by omega) (by simpa using hsize) (fun j hj => ?_) (fun k ok hk hlk e he hb => ?_) hs'
            · have := countP_lt (p := fun j => !listed.getD j false) (q := fun j => !(listed.setIfInBounds i true).getD j false) (i := i) (by simp [hunl]) (by simp [getD_set_self (show i < listed.size by omega)]) (fun j hj => by
                by_cases e : j = i
                · subst e; simp [hunl]
                · rw [getD_set_ne false (Ne.symm e)] at hj; exact hj) (l := List.range n) (by simpa using hin)
              omega
            · by_cases e : j = i
              · rw [e]; exact hin
              · rw [getD_set_ne false (Ne.symm e)] at hj; exact htl j hj
            · by_cases e' : k = i
              · subst e'
                rw [ho] at hk; cases hk
                exact getD_set_true (hpre e he hb)
              · rw [getD_set_ne false (Ne.symm e')] at hlk
                exact getD_set_true (hcl k ok hk hlk e he hb)
          unfold wpOp
          simp only [ho]
          exact hs2
  have hdr : SR X io F0 (accSt s us (fun j => (Array.replicate ops.toArray.size false).getD j false) n) a0 w0.drew := by
    have : accSt s us (fun j => (Array.replicate ops.toArray.size false).getD j false) n = s := by
      have h0 : ∀ j, (Array.replicate ops.toArray.size false).getD j false = false := fun j => by
        simp only [Array.getD_eq_getD_getElem?, Array.getElem?_replicate]
        split <;> rfl
      have : ∀ m, m ≤ n → accSt s us (fun j => (Array.replicate ops.toArray.size false).getD j false) m = s := by
        intro m
        induction m with
        | zero => intro _; rfl
        | succ m ih => intro hm; simp only [accSt, h0, cond_false]; simpa only [h0] using ih (by omega)
      exact this n (Nat.le_refl _)
    rw [this]; exact hs.drew
  refine key n ops.toArray.size _ io F0 a0 w0.drew ?_ (by omega) (by simp) (fun j hj => ?_) (fun i o ho hl => ?_) hdr
  · exact Nat.le_trans List.countP_le_length (by simp)
  · simp only [Array.getD_eq_getD_getElem?, Array.getElem?_replicate] at hj
    split at hj <;> simp at hj
  · simp only [Array.getD_eq_getD_getElem?, Array.getElem?_replicate] at hl
    split at hl <;> simp at hl
theorem awp_region_ord {ex : Bool} {X : Ctx} (hm : X.P.follows .mixedOrders = true) {id : Nat} {ops : List Oper} (n : Nat) (hok : ordOk ex ops.toArray n = true) {Q : Exit → St → Prop} {sx s1 : St} (hKs : ((allocKeys ops.toArray).all fun k => !(X.K.contains k)) = true) (hrun : PRun ex X ops.toArray (ops.take n) (sx.kills (allocKeys ops.toArray)) s1) (htail : awpL X ops.toArray (ops.drop n) Q s1) : awp X (.region id ops.toArray true) Q sx := fun io F a w hs => wp_region_any hm (any_region_ord n hok hKs hrun htail io F a w hs)
end Go.Vw

/-
  Bytes as a string, and a string as bytes. Conditions: the table of types is the program's.
-/
namespace Go.Vw
open Go.RowKit

@[reducible] def eB (b : UInt8) : List D := [.int .u8 (b.toNat : Int)]

section
variable {X : Ctx} {T : TypeId → Option TyD} (hT : TabOk X.P T) {all : Array Oper} {s : St} {o : Oper} {src dst e : TypeId} {y : Operand} {sd ed dd : TyD} {l : List UInt8}
include hT
theorem run_b2s {F : Nat → Prop} {w : World} {v : Value} (hs : T src = some sd) (hsd : sd.desc = .slice e) (he : T e = some ed) (hed : ed.desc = .int .u8) (hd : T dst = some dd) (hdd : dd.desc = .string) (h : DR F w (.sl 1 eB 0 l) v) : (convert src dst v).run X.P w = .ok (.string ⟨l.toArray⟩) w := by
  have h1 := (hT _ _ hs).und
  have h2 := (hT _ _ he).und
  have h3 := (hT _ _ hd).und
  rw [hsd] at h1; rw [hed] at h2; rw [hdd] at h3
  simp only [DR] at h
  rcases h with ⟨⟨p, c0, rfl⟩, rfl⟩ | ⟨b, off, cap, arr, ty, fz, rfl, _, _, hh, hl⟩
  · cases p with
    | none =>
      rw [run_convert_bytes_string w src dst e none 0 c0 h1 h2 h3]
      rfl
    | some a => exact run_convert_bytes_back w src dst e a c0 [] h1 h2 h3 fun j hj => by simp at hj
  · refine run_convert_bytes_back w src dst e _ cap l h1 h2 h3 fun j hj => ?_
    obtain ⟨_, q⟩ := hl j l[j] (List.getElem?_eq_getElem hj)
    simp only [DRA, DR, Nat.mul_one] at q
    obtain ⟨⟨v, q1, _, rfl⟩, _⟩ := q
    rw [add_plain]
    simp [World.cell?, hh, q1]
theorem m_b2sO {k o1 n : Nat} {ty ty' : TypeId} {z : UInt8} (hop : o.op = .convert src dst y) (hg : gd all s o = some true) (hs : T src = some sd) (hsd : sd.desc = .slice e) (he : T e = some ed) (hed : ed.desc = .int .u8) (hd : T dst = some dd) (hdd : dd.desc = .string) (hy : s.opd y = .own k o1 n ty 1) (hk : s.blk k = some (.data ty' 1 eB z l)) : M1 X all s o (.d (.str (cut o1 n l))) := fun io F a w ht hb hF K Q hK => by
  obtain ⟨dst', op, ty0, pos, after, g⟩ := o
  cases hop
  have hvy := operands_of ht y (by simp [Op.operands])
  rw [hy] at hvy
  have hdr := asD_own hb hk hvy
  have hr := run_b2s (X := X) hT hs hsd he hed hd hdd (l := cut o1 n l) (F := Lent s io F) (w := w) (v := a.eval y) (by simpa only [DR] using hdr)
  refine opWp_value (gd_sound ht hg) (v := .string ⟨(cut o1 n l).toArray⟩) (w' := w) ?_ (hK F w _ (Below.refl _ _) (fun _ h => h) (fun _ h => .inl h) (by simp only [VR, DR]))
  simp [execOp, hr]
end
end Go.Vw

/-
  The rules of the walk, their side conditions paid by themselves. Conditions: as each says.
-/
namespace Go.Vw
open Go.RowKit

def forceV (C : Prop) : V → Ev V
  | .d y => some (C, .d y)
  | .own k o n ty sz => some (C, .own k o n ty sz)
  | .ptr k o => some (C, .ptr k o)
  | .eptr k sz i f => some (C, .eptr k sz i f)
  | .agg cs => some (C, .agg cs)
  | .tup cs => some (C, .tup cs)
  | .fn f cs => some (C, .fn f cs)
theorem forceV_eq (C : Prop) (x : V) : forceV C x = some (C, x) := by cases x <;> rfl
def evalF (T : TypeId → Option TyD) (m : Bool) (s : St) (op : Op) : Ev V :=
  match evalQ T m s op with
  | some (C, x) => forceV C x
  | none => none
theorem evalF_eq (T : TypeId → Option TyD) (m : Bool) (s : St) (op : Op) : evalF T m s op = evalQ T m s op := by
  unfold evalF
  split
  · rename_i C x h; rw [forceV_eq, h]
  · rename_i h; rw [h]

@[reducible] def eI (k : IntKind) (x : Int) : List D := [.int k x]
@[reducible] def eN (k : IntKind) (x : Nat) : List D := [.int k (x : Int)]
@[reducible] def u32s (l : List Nat) : D := .sl 1 (eN .u32) 0 l
@[reducible] def i64s (l : List Int) : D := .sl 1 (eI .i64) 0 l
theorem leN {k : IntKind} {x : Int} (h : 0 ≤ x) : LeL [.int k x] (eN k x.toNat) := by
  rw [eN, Int.toNat_of_nonneg h]; exact LeL.refl _
theorem boolFits_of {dd : TyD} {b : Bool} (h : TypeDesc.isBool dd.desc = true) : boolFits dd (.bool b) := h
theorem iv {k : IntKind} {a b : Int} (h : a = b) : V.d (.int k a) = V.d (.int k b) := by rw [h]
theorem i64max : IntKind.i64.max = 9223372036854775807 := rfl
theorem sc {C : Prop} (h : C := by first | ((repeat' (first | exact trivial | apply And.intro | omega | exact Go.Vw.boolFits_of rfl | decide | with_reducible rfl | with_reducible assumption | (with_reducible show (_ : Nat) = _; exact rfl) | (simp only [IntKind.bits, Go.Vw.i64max, Go.Vw.plus0_eq, List.length_append, List.length_cons, List.length_nil, List.length_set, List.length_replicate, List.length_take, List.length_drop, List.length_map, List.length_range] <;> omega))); done) | fail) : C := h
theorem LeD.eqi {k : IntKind} {x y : Int} (h : x = y) : LeD (.int k x) (.int k y) := by subst h; exact LeD.refl _
theorem LeD.full {sz : Nat} {α : Type} {e : α → List D} {z : α} {l : List α} : LeD (.sl sz e z (cut 0 l.length l)) (.sl sz e z l) := by
  rw [cut_all]; exact LeD.refl _
theorem leB {x : Int} (h : 0 ≤ x ∧ x < 256) : LeL [.int .u8 x] (eB (UInt8.ofNat x.toNat)) := by
  have : ((UInt8.ofNat x.toNat).toNat : Int) = x := by
    rw [UInt8.toNat_ofNat']
    have : x.toNat % 2 ^ 8 = x.toNat := Nat.mod_eq_of_lt (by omega)
    rw [this]; omega
  rw [eB, this]; exact LeL.refl _
theorem LeD.cutAll {sz n : Nat} {α : Type} {e : α → List D} {z : α} {l : List α} (h : n = l.length) : LeD (.sl sz e z (cut 0 n l)) (.sl sz e z l) := by
  subst h; exact LeD.full
theorem leL {xs ys : List D} (h : LeL xs ys := by
  first
  | with_reducible exact Go.Vw.LeL.refl _
  | exact Go.Vw.leB (by omega)
  | exact Go.Vw.leN (by omega)
  | exact Go.Vw.LeL.refl _
  | exact Go.Vw.leEq (by omega)
  | exact Go.Vw.leEqI (by omega)
  | ((repeat' (first | exact Go.Vw.LeD.refl _ | exact Go.Vw.LeL.nil | apply Go.Vw.LeL.cons | exact Go.Vw.LeD.nils | apply Go.Vw.LeD.agg | exact Go.Vw.LeD.lit rfl Go.Vw.LeR.nil | (refine Go.Vw.LeD.lit rfl (Go.Vw.LeR.cons rfl ?_ ?_)) | exact Go.Vw.LeL.refl _ | exact Go.Vw.LeR.nil | (refine Go.Vw.LeR.cons rfl ?_ ?_))); done)
  | (refine Go.Vw.le3 ?_; (repeat' (first | exact Go.Vw.LeD.refl _ | exact Go.Vw.LeL.nil | apply Go.Vw.LeL.cons | exact Go.Vw.LeD.nils | apply Go.Vw.LeD.agg)); done)
  | (refine Go.Vw.le2 ?_; (repeat' (first | exact Go.Vw.LeD.refl _ | exact Go.Vw.LeL.nil | apply Go.Vw.LeL.cons | exact Go.Vw.LeD.nils | apply Go.Vw.LeD.agg)); done)
  | fail) : LeL xs ys := h
theorem leT {xs ys : List D} (h : LeT xs ys := by
  first
  | ((repeat' (first | exact Go.Vw.LeD.full | exact Go.Vw.LeD.tk0 | exact Go.Vw.LeD.cutAll Go.Vw.sc | exact Go.Vw.LeD.refl _ | exact Go.Vw.LeT.nil | exact Go.Vw.LeD.eqi (by omega) | apply Go.Vw.LeT.cons | exact Go.Vw.LeD.nils | (refine Go.Vw.LeD.agg ?_; exact Go.Vw.leL) | (refine Go.Vw.LeD.lit rfl ?_; repeat' (first | exact Go.Vw.LeR.nil | refine Go.Vw.LeR.cons rfl Go.Vw.leL ?_)) | (refine Go.Vw.LeD.fn ?_; exact Go.Vw.leL) | (refine Go.Vw.LeD.ptr ?_ _; exact Go.Vw.leL))); done)
  | fail) : LeT xs ys := h
theorem src_lit {X : Ctx} {s : St} {sz n : Nat} {α : Type} {e : α → List D} {rows : List (List D)} {a : α} {l : List α} (hn : rows.length = n) (h : LeR sz rows e (a :: l)) : SrcOk X s (.d (.sl sz (nth [] rows) 0 (iota n 0))) sz e (a :: l) := src_data (z := a) (LeD.lit hn h)
theorem srcOk {X : Ctx} {s : St} {y : V} {sz : Nat} {α : Type} {e : α → List D} {l : List α} (h : SrcOk X s y sz e l := by
  first
  | exact Go.Vw.src_data (Go.Vw.LeD.refl _)
  | exact Go.Vw.src_lit rfl (Go.Vw.LeR.cons rfl Go.Vw.leL Go.Vw.LeR.nil)
  | exact Go.Vw.src_lit rfl (Go.Vw.LeR.cons rfl Go.Vw.leL (Go.Vw.LeR.cons rfl Go.Vw.leL Go.Vw.LeR.nil))
  | exact Go.Vw.src_data Go.Vw.LeD.nils
  | exact Go.Vw.src_all rfl rfl
  | exact Go.Vw.src_own rfl
  | fail) : SrcOk X s y sz e l := h

theorem tt : true = true := rfl
theorem ff : false = false := rfl
theorem stt : some true = some true := rfl
theorem sff : some false = some false := rfl
def opK : Op → Nat
  | .store .. => 1
  | .alloc _ => 2
  | .box _ _ => 2
  | .call ⟨.builtin .append, _, _⟩ => 3
  | .call ⟨.builtin _, _, _⟩ => 0
  | .call _ => 6
  | .makeSlice .. => 4
  | .buildSlice .. => 5
  | _ => 0
section
variable {X : Ctx} {all : Array Oper} {s : St} {o : Oper}
theorem m_q (m : Bool) (hg : gd all s o = some true) {C : Prop} {x : V} (hq : evalF X.T m s o.op = some (C, x)) (hC : C) : M1 X all s o x := m_quiet X.ok m hg (by rw [evalF_eq] at hq; exact hq) hC
variable {Q : Exit → St → Prop} {rest : List Oper}
theorem stepM {x : V} {d : Tmp} (hdst : o.dst = some d) (hd : dstOk X.N (some d) = true) (h : M1 X all s o x) (k : awpL X all rest Q (s.put (some d) x)) : awpL X all (o :: rest) Q s := by
  rw [← hdst] at hd k; exact awpL_step (h.e1 hd) k
theorem stepQ {d : Tmp} {C : Prop} {x : V} (m : Bool) (hk : Nat.beq (opK o.op) 0 = true) (hg : gd all s o = some true) (hdst : o.dst = some d) (hd : dstOk X.N (some d) = true) (hq : evalF X.T m s o.op = some (C, x)) (hC : C) (k : awpL X all rest Q (s.put (some d) x)) : awpL X all (o :: rest) Q s := stepM hdst hd (m_q m hg hq hC) k
theorem stepOff {d : Tmp} (hg : gd all s o = some false) (hdst : o.dst = some d) (hd : dstOk X.N (some d) = true) (k : awpL X all rest Q (s.put (some d) (.d (.tup [])))) : awpL X all (o :: rest) Q s := stepM hdst hd (m_off hg) k
theorem stepE1 {s' : St} {x : V} {d : Tmp} (hkk : Nat.beq (opK o.op) 2 = true) (hdst : o.dst = some d) (hg : gd all s o = some true) (hd : dstOk X.N (some d) = true) (hK : X.K.contains d = false) (h : evalE X.T s (some d) o.op = some (some x, s')) (k : awpL X all rest Q (s'.put (some d) x)) : awpL X all (o :: rest) Q s := by
  obtain ⟨dst, op, ty, pos, after, g⟩ := o
  cases hdst
  exact awpL_step (e_eff X.ok hg hd (fun d' e => by cases e; exact hK) h) k
theorem stepE0 {s' : St} (hkk : Nat.beq (opK o.op) 1 = true) (hdst : o.dst = none) (hg : gd all s o = some true) (h : evalE X.T s none o.op = some (none, s')) (k : awpL X all rest Q s') : awpL X all (o :: rest) Q s := by
  obtain ⟨dst, op, ty, pos, after, g⟩ := o
  cases hdst
  exact awpL_step (e_eff X.ok hg rfl (fun d' e => by cases e) h) k
end

def SrcZ (X : Ctx) (s : St) (y : V) (sz : Nat) {α : Type} (e : α → List D) (z : α) (l : List α) : Prop := SrcOk X s y sz e l
theorem srcz_sl {X : Ctx} {s : St} {y : D} {sz : Nat} {α : Type} {e : α → List D} {z : α} {l : List α} (h : y = .sl sz e z l) : SrcZ X s (.d y) sz e z l := by
  subst h; exact src_data (LeD.refl _)
theorem srcz_own {X : Ctx} {s : St} {k o n : Nat} {ty ty' : TypeId} {sz : Nat} {α : Type} {e : α → List D} {z : α} {l : List α} (hk : s.blk k = some (.data ty' sz e z l)) : SrcZ X s (.own k o n ty sz) sz e z (cut o n l) := src_own hk
theorem srcZ {X : Ctx} {s : St} {y : V} {sz : Nat} {α : Type} {e : α → List D} {z : α} {l : List α} (h : SrcZ X s y sz e z l := by
  first
  | exact Go.Vw.srcz_sl rfl
  | exact Go.Vw.srcz_lit (Go.Vw.src_lit rfl (Go.Vw.LeR.cons rfl Go.Vw.leL Go.Vw.LeR.nil))
  | exact Go.Vw.srcz_lit (Go.Vw.src_lit rfl (Go.Vw.LeR.cons rfl Go.Vw.leL (Go.Vw.LeR.cons rfl Go.Vw.leL Go.Vw.LeR.nil)))
  | exact Go.Vw.srcz_all rfl rfl
  | exact Go.Vw.srcz_own rfl
  | fail) : SrcZ X s y sz e z l := h
section
variable {X : Ctx} {all : Array Oper} {s : St} {o : Oper} {Q : Exit → St → Prop} {rest : List Oper} {d : Tmp} {α : Type} {en : α → List D} {z : α} {l : List α} {td ed : TyD}
theorem stepStore {t ety : TypeId} {addr x : Operand} {k sz i f : Nat} {y : D} {cs : List D} {a' : α} (hkk : Nat.beq (opK o.op) 1 = true) (hop : o.op = .store t addr x) (hdst : o.dst = none) (hg : gd all s o = some true) (ht : X.T t = some td) (ha : s.opd addr = .eptr k sz i f) (hk : s.blk k = some (.data ety sz en z l)) (hx : s.opd x = .d y) (hst : ((V.d y).storable && Nat.beq y.cells.length td.size) = true) (hp : putL (en (l.getD i z)) f y.cells = some cs) (hle : LeL cs (en a')) (hi : i < l.length) (r : awpL X all rest Q (s.withBlk k (.data ety sz en z (l.set i a')))) : awpL X all (o :: rest) Q s := by
  obtain ⟨dst, op, ty, pos, after, g⟩ := o
  cases hop; cases hdst
  exact awpL_step (e_store X.ok hg ht ha hk hx hst hp hle hi) r
theorem stepApp {t : TypeId} {c : Call} {x y : Operand} {e : TypeId} {k n : Nat} {l2 : List α} (hkk : Nat.beq (opK o.op) 3 = true) (hop : o.op = .call c) (hc : c = ⟨.builtin .append, #[x, y], #[t, t]⟩) (hdst : o.dst = some d) (hg : gd all s o = some true) (hd : dstOk X.N (some d) = true) (ht : X.T t = some td) (hds : td.desc = .slice e) (he : X.T e = some ed) (hx : s.opd x = .own k 0 n e ed.size) (hK : X.K.contains k = false) (hk : s.blk k = some (.data e ed.size en z l)) (hz : zeroOk ed = true) (hn : n = l.length) (hy : SrcOk X s (s.opd y) ed.size en l2) (hb : l.length + l2.length ≤ 9223372036854775807 ∧ (l.length + l2.length) * ed.bytes ≤ 140737488355328) (r : awpL X all rest Q ((s.new k (.data e ed.size en z (l ++ l2))).put (some d) (.own k 0 (l ++ l2).length e ed.size))) : awpL X all (o :: rest) Q s := by
  obtain ⟨dst, op, ty, pos, after, g⟩ := o
  cases hop; cases hdst; subst hc
  exact awpL_step (e_append X.ok hg hd ht hds he hK hx hk hn hy hz hb) r
theorem stepAppNil {t : TypeId} {c : Call} {x y : Operand} {e : TypeId} {l2 : List α} (hkk : Nat.beq (opK o.op) 3 = true) (hop : o.op = .call c) (hc : c = ⟨.builtin .append, #[x, y], #[t, t]⟩) (hdst : o.dst = some d) (hg : gd all s o = some true) (hd : dstOk X.N (some d) = true) (ht : X.T t = some td) (hds : td.desc = .slice e) (he : X.T e = some ed) (hx : s.opd x = .d .nils) (hK : X.K.contains d = false) (hz : zeroOk ed = true) (hy : SrcZ X s (s.opd y) ed.size en z l2) (hb : l2.length ≤ 9223372036854775807 ∧ l2.length * ed.bytes ≤ 140737488355328) (r : awpL X all rest Q (((s.new d (.data e ed.size en z [])).new d (.data e ed.size en z l2)).put (some d) (.own d 0 l2.length e ed.size))) : awpL X all (o :: rest) Q s := by
  obtain ⟨dst, op, ty, pos, after, g⟩ := o
  cases hop; cases hdst; subst hc
  exact awpL_step (e_appnil X.ok hg hd ht hds he hK hx hy hz hb) r
theorem stepMake {mm : Bool} {t e : TypeId} {lo co : Operand} {n m : Int} {C : Prop} {j : Nat} (hkk : Nat.beq (opK o.op) 4 = true) (hop : o.op = .makeSlice t lo co) (hdst : o.dst = some d) (hg : gd all s o = some true) (hd : dstOk X.N (some d) = true) (hK : X.K.contains d = false) (ht : X.T t = some td) (hds : td.desc = .slice e) (he : X.T e = some ed) (hl : intOfV (s.opd lo) = some n) (hc : intOfV (s.opd co) = some m) (hn : natOf mm n = some (C, ⟨j⟩)) (hz : zeroOk ed = true) (le : LeL (D.ofV ed.zero).cells (en z)) (hC : C) (hb : n ≤ m ∧ m * ed.bytes ≤ 140737488355328 ∧ m ≤ 9223372036854775807) (r : awpL X all rest Q ((s.new d (.data e ed.size en z (List.replicate j z))).put (some d) (.own d 0 j e ed.size))) : awpL X all (o :: rest) Q s := by
  obtain ⟨dst, op, ty, pos, after, g⟩ := o
  cases hop; cases hdst
  exact awpL_step (e_make X.ok hg hd hK ht hds he hl hc hn hz le hC hb) r
theorem stepLit {e : TypeId} {sz len : Nat} {rows : List (List D)} (hkk : Nat.beq (opK o.op) 5 = true) (h : evalB X.T s o.op = some (e, sz, len, rows)) (hdst : o.dst = some d) (hg : gd all s o = some true) (hd : dstOk X.N (some d) = true) (k : awpL X all rest Q (s.put (some d) (.d (.sl sz (nth [] rows) 0 (iota len 0))))) : awpL X all (o :: rest) Q s := stepM hdst hd (m_lit X.ok hg h) k
end

def litApp (d : Tmp) : List Oper → Bool
  | [] => false
  | o :: r => match o.op with
    | .call ⟨.builtin .append, args, _⟩ => (match args.toList with | .tmp t :: _ => Nat.beq t d | _ => false) || litApp d r
    | _ => litApp d r
section
variable {X : Ctx} {all : Array Oper} {s : St} {o : Oper} {Q : Exit → St → Prop} {pre rest : List Oper} {d : Tmp} {α : Type} {en : α → List D} {z : α} {l l2 : List α} {td ed : TyD} {d1 d2 : D}
theorem stepLitF {e : TypeId} {sz len : Nat} {rows : List (List D)} (hkk : Nat.beq (opK o.op) 5 = true) (hdst : o.dst = some d) (hla : litApp d rest = true) (h : evalB X.T s o.op = some (e, sz, len, rows)) (hg : gd all s o = some true) (hd : dstOk X.N (some d) = true) (k : awpL X all rest Q (s.put (some d) (.d (.full (.sl sz (nth [] rows) 0 (iota len 0)))))) : awpL X all (o :: rest) Q s := stepM hdst hd (m_litF X.ok hg h) k
theorem m_appF' {t : TypeId} {c : Call} {x y : Operand} {e : TypeId} (hop : o.op = .call c) (hc : c = ⟨.builtin .append, #[x, y], #[t, t]⟩) (hg : gd all s o = some true) (ht : X.T t = some td) (hds : td.desc = .slice e) (he : X.T e = some ed) (hx : s.opd x = .d (.full d1)) (hz : zeroOk ed = true) (hy : s.opd y = .d d2) (le2 : LeD d2 (.sl ed.size en z l2)) (le1 : LeD d1 (.sl ed.size en z l)) (hb : l.length + l2.length ≤ 9223372036854775807 ∧ (l.length + l2.length) * ed.bytes ≤ 140737488355328) : M1 X all s o (.d (.sl ed.size en z (l ++ l2))) := by
  subst hc; exact m_appF X.ok hop hg ht hds he hx le1 hy le2 hz hb
theorem stepB2SO {src dst e : TypeId} {y : Operand} {sd dd : TyD} {l : List UInt8} {k o1 n : Nat} {ty ty' : TypeId} {z : UInt8} (hop : o.op = .convert src dst y) (hdst : o.dst = some d) (hs : X.T src = some sd) (hsd : sd.desc = .slice e) (hdt : X.T dst = some dd) (hdd : dd.desc = .string) (he : X.T e = some ed) (hed : ed.desc = .int .u8) (hg : gd all s o = some true) (hd : dstOk X.N (some d) = true) (hy : s.opd y = .own k o1 n ty 1) (hk : s.blk k = some (.data ty' 1 eB z l)) (r : awpL X all rest Q (s.put (some d) (.d (.str (cut o1 n l))))) : awpL X all (o :: rest) Q s := stepM hdst hd (m_b2sO X.ok hop hg hs hsd he hed hdt hdd hy hk) r
theorem stepAppF {t : TypeId} {c : Call} {x y : Operand} {e : TypeId} (hkk : Nat.beq (opK o.op) 3 = true) (hop : o.op = .call c) (hc : c = ⟨.builtin .append, #[x, y], #[t, t]⟩) (hdst : o.dst = some d) (hx : s.opd x = .d (.full d1)) (hg : gd all s o = some true) (hd : dstOk X.N (some d) = true) (ht : X.T t = some td) (hds : td.desc = .slice e) (he : X.T e = some ed) (hz : zeroOk ed = true) (hy : s.opd y = .d d2) (le2 : LeD d2 (.sl ed.size en z l2)) (le1 : LeD d1 (.sl ed.size en z l)) (hb : l.length + l2.length ≤ 9223372036854775807 ∧ (l.length + l2.length) * ed.bytes ≤ 140737488355328) (k : awpL X all rest Q (s.put (some d) (.d (.sl ed.size en z (l ++ l2))))) : awpL X all (o :: rest) Q s := stepM hdst hd (m_appF' hop hc hg ht hds he hx hz hy le2 le1 hb) k
end

/-! ## Ways out -/
section
variable {X : Ctx} {Q : Exit → St → Prop} {K : St → Prop} {s : St} {id n : Nat}
theorem thenN (h : K s) : andThen K Q .normal s := h
theorem thenX (h : Q (.exit n) s) : andThen K Q (.exit n) s := h
theorem thenR (h : Q .ret s) : andThen K Q .ret s := h
theorem inN (h : Q .normal s) : inBlock id Q .normal s := h
theorem inR (h : Q .ret s) : inBlock id Q .ret s := h
theorem inX (h : Q .normal s) : inBlock id Q (.exit id) s := by simp only [inBlock, Nat.beq_refl]; exact h
end

/-! ## The part of a drawn region whose order is open, then the rest -/

def awpR (ex : Bool) (X : Ctx) (all : Array Oper) (pre rest : List Oper) (Q : Exit → St → Prop) (s : St) : Prop := ∃ s1, PRun ex X all pre s s1 ∧ awpL X all rest Q s1

section
variable {ex : Bool} {X : Ctx} {all : Array Oper} {Q : Exit → St → Prop} {s : St} {o : Oper} {pre rest : List Oper}
theorem awpR_nil (h : awpL X all rest Q s) : awpR ex X all [] rest Q s := ⟨s, .nil, h⟩
theorem isMove_no (h : regOp o.op = false) : isMove o = false := by
  unfold isMove
  rw [h]; rfl
theorem isAlloc_no (h : ∀ e, o.op ≠ .alloc e) : isAlloc o = false := by
  unfold isAlloc
  split
  · rename_i e h1; exact absurd h1 (h e)
  · rfl
theorem isMove_off (h : gd all s o = some false) : isMove o = false := by
  unfold isMove
  have : o.guard ≠ none := fun e => by unfold gd at h; rw [e] at h; cases h
  cases hg : o.guard with
  | none => exact absurd hg this
  | some p => simp
theorem isMove_call {c : Call} (h : o.op = .call c) (hb : regOp (.call c) = false) : isMove o = false := isMove_no (by rw [h]; exact hb)
theorem callee_reg {c : Call} {x : FuncId × List V} (h : calleeOf s c = some x) : regOp (.call c) = false := by
  unfold calleeOf at h
  unfold regOp
  split at h
  · rename_i y e; simp only [e]
  · cases h
theorem isLoad_call {c : Call} (h : o.op = .call c) : isLoad o = false := by unfold isLoad; rw [h]; rfl
theorem isLoad_off (h : gd all s o = some false) : isLoad o = false := by
  unfold isLoad
  have : o.guard ≠ none := fun e => by unfold gd at h; rw [e] at h; cases h
  cases hg : o.guard with
  | none => exact absurd hg this
  | some p => simp
theorem chkLd_not {k : Option Nat} (h : isLoad o = false) : chkLd all k o = true := by unfold chkLd; rw [h]; rfl
theorem isAlloc_call {c : Call} (h : o.op = .call c) : isAlloc o = false := isAlloc_no fun y e => by rw [h] at e; cases e
theorem awpR_cons {x : D} {d : Tmp} (hn : isMove o = false) (hna : isAlloc o = false) (hnl : isLoad o = false) (hdst : o.dst = some d) (hd : dstOk X.N (some d) = true) (h : M1 X all s o (.d x)) (k : awpR ex X all pre rest Q (s.put (some d) (.d x))) : awpR ex X all (o :: pre) rest Q s := by
  rw [← hdst] at hd k
  obtain ⟨s1, h1, h2⟩ := k
  exact ⟨s1, .cons hd h (fun hm => by rw [hn] at hm; cases hm) hna rfl (fun hm => by rw [hnl] at hm; cases hm) (fun _ => chkLd_not hnl) h1, h2⟩
theorem opd_agree {s' : St} {y : Operand} (hy : y ∈ o.op.operands.toList) (h : ∀ t ∈ o.looksAt all, s'.tmps t = s.tmps t) : s'.opd y = s.opd y := by
  cases y with
  | tmp t => exact h t (by unfold Oper.looksAt; rw [List.mem_append]; left; rw [List.mem_filterMap]; exact ⟨_, hy, rfl⟩)
  | const v => rfl
  | global g => rfl
  | func f => rfl
theorem gd_agree {s' : St} (h : ∀ t ∈ o.looksAt all, s'.tmps t = s.tmps t) : gd all s' o = gd all s o := by
  unfold gd
  cases hg : o.guard with
  | none => rfl
  | some p =>
    obtain ⟨g, want⟩ := p
    simp only
    cases hd : (all[g]?).bind (·.dst) with
    | none => rfl
    | some d => simp only [h d (by unfold Oper.looksAt; rw [List.mem_append]; right; simp [hg, hd])]
theorem evalQ_move {T : TypeId → Option TyD} {m : Bool} {s' : St} (hm : isMove o = true) (h : ∀ t ∈ o.looksAt all, s'.tmps t = s.tmps t) : evalQ T m s' o.op = evalQ T m s o.op := by
  have hop := fun y hy => opd_agree (s := s) (s' := s') (o := o) (all := all) (y := y) hy h
  unfold isMove at hm
  rw [Bool.and_eq_true] at hm
  have hr := hm.1
  unfold regOp at hr
  split at hr
  · rename_i y e; rw [e] at hop ⊢; simp only [evalQ, hop y (by simp [Op.operands])]
  · rename_i y e; rw [e] at hop ⊢; simp only [evalQ, hop y (by simp [Op.operands])]
  · rename_i y i e; rw [e] at hop ⊢; simp only [evalQ, hop y (by simp [Op.operands])]
  · rename_i a b x y c e; rw [e] at hop ⊢; simp only [evalQ, hop x (by simp [Op.operands]), hop y (by simp [Op.operands])]
  · rename_i t x i e; rw [e] at hop ⊢; simp only [evalQ, hop x (by simp [Op.operands]), hop i (by simp [Op.operands])]
  · rename_i t x f e; rw [e] at hop ⊢; simp only [evalQ, hop x (by simp [Op.operands])]
  · rename_i x e; rw [e] at hop ⊢; simp only [evalQ, hop x (by simp [Op.operands])]
  · rename_i c e
    rw [e] at hop ⊢
    obtain ⟨cal, args, tys⟩ := c
    cases cal with
    | builtin b =>
      have h2 : ∀ y ∈ args.toList, s'.opd y = s.opd y := fun y hy => hop y (by simp only [Op.operands, Call.operands]; simpa using hy)
      simp only [evalQ]
      cases hl : args.toList with
      | nil => cases b <;> cases tys[0]? <;> rfl
      | cons x t => cases t with
        | nil => cases b <;> cases tys[0]? <;> first | rfl | (dsimp only; rw [h2 x (by rw [hl]; simp)])
        | cons y u => cases u with
          | nil => cases b <;> cases tys[0]? <;> first | rfl | (dsimp only; rw [h2 x (by rw [hl]; simp), h2 y (by rw [hl]; simp)])
          | cons z u => cases b <;> cases tys[0]? <;> rfl
    | value f => rfl
    | invoke r m => rfl
  · cases hr
theorem evalQ_load {T : TypeId → Option TyD} {m : Bool} {s' : St} {r : Prop × V} (hm : isLoad o = true) (hq : evalQ T m s o.op = some r) (h : ∀ t ∈ o.looksAt all, s'.tmps t = s.tmps t) (hb : ∀ k b, keyOf s o = some k → s.blk k = some b → s'.blk k = some b) : evalQ T m s' o.op = some r := by
  have hop := fun y hy => opd_agree (s := s) (s' := s') (o := o) (all := all) (y := y) hy h
  unfold isLoad at hm
  rw [Bool.and_eq_true] at hm
  have hr := hm.1
  split at hr
  · rename_i t y e
    unfold keyOf at hb
    rw [e] at hop hq hb ⊢
    simp only [evalQ, hop y (by simp [Op.operands])] at hq hb ⊢
    cases hT : T t with
    | none => rw [hT] at hq; cases hq
    | some td =>
      rw [hT] at hq
      cases hy : s.opd y with
      | ptr k o1 =>
        rw [hy] at hq hb
        cases hk : s.blk k with
        | none => simp only [hk] at hq; cases hq
        | some b => simp only [hb k b rfl hk]; simp only [hk] at hq; exact hq
      | eptr k sz i o1 =>
        rw [hy] at hq hb
        cases hk : s.blk k with
        | none => simp only [hk] at hq; cases hq
        | some b => simp only [hb k b rfl hk]; simp only [hk] at hq; exact hq
      | d x => rw [hy] at hq; cases x <;> first | exact hq | cases hq
      | _ => rw [hy] at hq; cases hq
  · cases hr
theorem awpR_consQ {x : V} {d : Tmp} (m : Bool) {C : Prop} (hg : gd all s o = some true) (hq : evalF X.T m s o.op = some (C, x)) (hC : C) (hf : chkV all x = true) (hx : (!ex || chkLd all (keyOf s o) o) = true) (hdst : o.dst = some d) (hd : dstOk X.N (some d) = true) (k : awpR ex X all pre rest Q (s.put (some d) x)) : awpR ex X all (o :: pre) rest Q s := by
  rw [← hdst] at hd k
  obtain ⟨s1, h1, h2⟩ := k
  refine ⟨s1, .cons hd (m_q m hg hq hC) (fun hm s' hs' => m_q m ((gd_agree hs').trans hg) ?_ hC) (isAlloc_no fun e he => ?_) hf (fun hm s' hs' hb => m_q m ((gd_agree hs').trans hg) ?_ hC) (fun e => by subst e; simpa using hx) h1, h2⟩
  · rw [evalF_eq] at hq ⊢
    rw [evalQ_move hm hs']; exact hq
  · rw [evalF_eq, he] at hq
    simp only [evalQ] at hq
    cases hq
  · rw [evalF_eq] at hq ⊢
    exact evalQ_load hm hq hs' hb
theorem awpR_store {k : Nat} {b b0 : Blk} (hs : isStore o = true) (hdst : o.dst = none) (hk : s.blk k = some b0) (hl : b.ln = b0.ln) (hkk : chkK all o k = true) (hf : chkB all b = true) (h : S1 X all s o k b) (hx : (!ex || chkSt all o k) = true) (kk : awpR ex X all pre rest Q (s.withBlk k b)) : awpR ex X all (o :: pre) rest Q s := by
  obtain ⟨s1, h1, h2⟩ := kk
  exact ⟨s1, .store hs hdst hk hl hkk hf h (fun e => by subst e; simpa using hx) h1, h2⟩
theorem stepRStoreB {td : TyD} {t ety : TypeId} {addr x : Operand} {k i : Nat} {cs cs' : List V} {xv : V} (hkk : Nat.beq (opK o.op) 1 = true) (hop : o.op = .store t addr x) (hdst : o.dst = none) (hg : gd all s o = some true) (ht : X.T t = some td) (ha : s.opd addr = .ptr k i) (hk : s.blk k = some (.box ety cs)) (hx : s.opd x = xv) (hst : (xv.storable && Nat.beq xv.cells.length td.size) = true) (hp : putL cs i xv.cells = some cs') (hck : chkK all o k = true) (hf : chkB all (.box ety cs') = true) (hxx : (!ex || chkSt all o k) = true) (r : awpR ex X all pre rest Q (s.withBlk k (.box ety cs'))) : awpR ex X all (o :: pre) rest Q s := by
  obtain ⟨dst, op, ty, pos, after, g⟩ := o
  cases hop; cases hdst
  refine awpR_store (b := .box ety cs') rfl rfl hk rfl hck hf (fun s' hb _ htm => ?_) hxx r
  have h1 : s'.opd addr = .ptr k i := (opd_agree (o := ⟨none, .store t addr x, ty, pos, after, g⟩) (all := all) (by simp [Op.operands]) htm).trans ha
  have h2 : s'.opd x = xv := (opd_agree (o := ⟨none, .store t addr x, ty, pos, after, g⟩) (all := all) (by simp [Op.operands]) htm).trans hx
  have he : evalE X.T s' none (.store t addr x) = some (none, s'.withBlk k (.box ety cs')) := by
    simp only [evalE, ht, h1, hb.bl _ _ hk, h2, hst, hp]
  exact e_eff X.ok ((gd_agree htm).trans hg) rfl (fun d e => by cases e) he
theorem stepRAlloc {d : Tmp} {e : TypeId} {ed : TyD} (hkk : Nat.beq (opK o.op) 2 = true) (hop : o.op = .alloc e) (hdst : o.dst = some d) (hgn : o.guard = none) (he : X.T e = some ed) (hst : (V.d (D.ofV ed.zero)).storable = true) (hn : s.blk d = none) (hd : dstOk X.N (some d) = true) (hK : X.K.contains d = false) (hf : chkB all (.box e (V.d (D.ofV ed.zero)).cells) = true) (r : awpR ex X all pre rest Q ((s.withBlk d (.box e (V.d (D.ofV ed.zero)).cells)).put (some d) (.ptr d 0))) : awpR ex X all (o :: pre) rest Q s := by
  obtain ⟨dst, op, ty, pos, after, g⟩ := o
  cases hop; cases hdst; cases hgn
  obtain ⟨s1, h1, h2⟩ := r
  refine ⟨s1, .alloc rfl rfl hn rfl hf (fun s' hs' => ?_) h1, h2⟩
  have hev : evalE X.T s' (some d) (.alloc e) = some (some (.ptr d 0), s'.new d (.box e (V.d (D.ofV ed.zero)).cells)) := by
    simp only [evalE, he, hst]
  have hnew : s'.new d (.box e (V.d (D.ofV ed.zero)).cells) = s'.withBlk d (.box e (V.d (D.ofV ed.zero)).cells) := by unfold St.new; rw [hs'.sub]
  rw [← hnew]
  exact e_eff X.ok (all := all) (o := ⟨some d, .alloc e, ty, pos, after, none⟩) (s := s') rfl hd (fun d' e => by cases e; exact hK) hev
theorem put_self {s : St} {d : Tmp} {x : V} (h : s.tmps d = x) : s.put (some d) x = s := by
  have : (s.put (some d) x).tmps = s.tmps := by
    funext t
    simp only [St.put]
    cases hb : Nat.beq t d with
    | true => have := Nat.eq_of_beq_eq_true hb; subst this; simp [h]
    | false => rfl
  cases s
  simp only [St.put] at this ⊢
  rw [this]
theorem stepRQ {d : Tmp} {C : Prop} {x : V} (m : Bool) (hk : Nat.beq (opK o.op) 0 = true) (hg : gd all s o = some true) (hdst : o.dst = some d) (hd : dstOk X.N (some d) = true) (hq : evalF X.T m s o.op = some (C, x)) (hC : C) (hf : chkV all x = true) (hx : (!ex || chkLd all (keyOf s o) o) = true) (k : awpR ex X all pre rest Q (s.put (some d) x)) : awpR ex X all (o :: pre) rest Q s := awpR_consQ m hg hq hC hf hx hdst hd k
theorem stepROff {d : Tmp} (hg : gd all s o = some false) (hdst : o.dst = some d) (hd : dstOk X.N (some d) = true) (hna : isAlloc o = false) (k : awpR ex X all pre rest Q (s.put (some d) (.d (.tup [])))) : awpR ex X all (o :: pre) rest Q s := awpR_cons (isMove_off hg) hna (isLoad_off hg) hdst hd (m_off hg) k
theorem awpR_guard {d : Tmp} {b : Bool} (hd : s.tmps d = .d (.bool b)) (h1 : b = true → awpR ex X all pre rest Q (s.put (some d) (.d (.bool true)))) (h2 : b = false → awpR ex X all pre rest Q (s.put (some d) (.d (.bool false)))) : awpR ex X all pre rest Q s := by
  cases b with
  | true => have := h1 rfl; rwa [put_self hd] at this
  | false => have := h2 rfl; rwa [put_self hd] at this
theorem awp_regE {ex : Bool} (id n : Nat) (ks : List Nat) {ops : List Oper} (hm : X.P.follows .mixedOrders = true) (hok : ordOk ex ops.toArray n = true) (hak : allocKeys ops.toArray = ks) (hK : (ks.all fun k => !(X.K.contains k)) = true) (h : awpR ex X ops.toArray (ops.take n) (ops.drop n) Q (s.kills ks)) : awp X (.region id ops.toArray true) Q s := by
  subst hak
  obtain ⟨s1, h1, h2⟩ := h
  exact awp_region_ord hm n hok hK h1 h2
theorem awp_regK (id n : Nat) (ks : List Nat) {ops : List Oper} (hm : X.P.follows .mixedOrders = true) (hok : ordOk false ops.toArray n = true) (hak : allocKeys ops.toArray = ks) (hK : (ks.all fun k => !(X.K.contains k)) = true) (h : awpR false X ops.toArray (ops.take n) (ops.drop n) Q (s.kills ks)) : awp X (.region id ops.toArray true) Q s := awp_regE id n ks hm hok hak hK h
theorem awp_reg (id n : Nat) {ops : List Oper} (hm : X.P.follows .mixedOrders = true) (hok : ordOk false ops.toArray n = true) (hak : allocKeys ops.toArray = []) (h : awpR false X ops.toArray (ops.take n) (ops.drop n) Q s) : awp X (.region id ops.toArray true) Q s := awp_regK id n [] hm hok hak rfl h
end

/-! ## Guards that are open -/

def guardOf (all : Array Oper) (o : Oper) : Option Tmp := match o.guard with | none => none | some (g, _) => (all[g]?).bind (·.dst)

section
variable {ex : Bool} {X : Ctx} {all : Array Oper} {Q : Exit → St → Prop} {s : St} {o : Oper} {pre rest : List Oper} {d : Tmp}
theorem gdL {b : Bool} (hg : guardOf all o = some d) (hd : s.tmps d = .d (.bool b)) (h1 : b = true → awpL X all (o :: rest) Q (s.put (some d) (.d (.bool true)))) (h2 : b = false → awpL X all (o :: rest) Q (s.put (some d) (.d (.bool false)))) : awpL X all (o :: rest) Q s := awpL_guard hd h1 h2
end
section
variable {ex : Bool} {X : Ctx} {all : Array Oper} {Q : Exit → St → Prop} {s : St} {o : Oper} {pre rest : List Oper} {d : Tmp} {p : Prop} [Decidable p]
theorem gdLD (hg : guardOf all o = some d) (hd : s.tmps d = .d (.bool (decide p))) (h1 : p → awpL X all (o :: rest) Q (s.put (some d) (.d (.bool true)))) (h2 : ¬ p → awpL X all (o :: rest) Q (s.put (some d) (.d (.bool false)))) : awpL X all (o :: rest) Q s := awpL_guard hd (fun e => h1 (of_decide_eq_true e)) (fun e => h2 (of_decide_eq_false e))
theorem gdLN (hg : guardOf all o = some d) (hd : s.tmps d = .d (.bool (!decide p))) (h1 : ¬ p → awpL X all (o :: rest) Q (s.put (some d) (.d (.bool true)))) (h2 : p → awpL X all (o :: rest) Q (s.put (some d) (.d (.bool false)))) : awpL X all (o :: rest) Q s := awpL_guard hd (fun e => h1 (of_decide_eq_false (by simpa using e))) (fun e => h2 (of_decide_eq_true (by simpa using e)))
theorem gdRD (hg : guardOf all o = some d) (hd : s.tmps d = .d (.bool (decide p))) (h1 : p → awpR ex X all (o :: pre) rest Q (s.put (some d) (.d (.bool true)))) (h2 : ¬ p → awpR ex X all (o :: pre) rest Q (s.put (some d) (.d (.bool false)))) : awpR ex X all (o :: pre) rest Q s := awpR_guard hd (fun e => h1 (of_decide_eq_true e)) (fun e => h2 (of_decide_eq_false e))
end
theorem goA {G : Prop} {X : Ctx} {c : Code} {Q : Exit → St → Prop} {s : St} (k : G) (h : G → awp X c Q s := by
  first
  | exact Go.Vw.awp_seq
  | exact Go.Vw.awp_region
  | exact Go.Vw.awp_block
  | exact Go.Vw.awp_condT rfl
  | exact Go.Vw.awp_condF rfl
  | exact Go.Vw.awp_skip
  | exact Go.Vw.awp_exit
  | exact Go.Vw.awp_ret
  | fail) : awp X c Q s := h k
section
variable {ex : Bool} {X : Ctx} {all : Array Oper} {Q : Exit → St → Prop} {s : St} {o : Oper} {pre rest : List Oper} {c : Call} {caps : List V} {ds' : List D} {r : D}

def CallM (X : Ctx) (all : Array Oper) (s : St) (o : Oper) (f : FuncId) (ds' : List D) (r : D) : Prop := Ret X.P f ds' (· = r) → M1 X all s o (.d r)
def CallE (X : Ctx) (all : Array Oper) (s s1 : St) (o : Oper) (f : FuncId) (ds' : List D) (r : D) : Prop := Ret X.P f ds' (· = r) → E1 X all s o (s1.put o.dst (.d r))

theorem callM_plain {f : FuncId} (hop : o.op = .call c) (hg : gd all s o = some true) (hc : calleeOf s c = some (f, caps)) (hk : (allD (c.args.toList.map s.opd ++ caps)).isSome = true) {ds : List D} (ha : allD (c.args.toList.map s.opd ++ caps) = some ds) (le : LeT ds ds') : CallM X all s o f ds' r := fun hr => m_callR hg hop hc ha le hr
theorem callE_of {f : FuncId} (hd : dstOk X.N o.dst = true) (h : CallM X all s o f ds' r) : CallE X all s s o f ds' r := fun hr => (h hr).e1 hd
theorem callE_frz {f : FuncId} {s1 : St} (hop : o.op = .call c) (hc : calleeOf s c = some (f, caps)) (hkk : (ownKey (c.args.toList.map s.opd ++ caps)).isSome = true) {k : Nat} {b : Blk} (hk : ownKey (c.args.toList.map s.opd ++ caps) = some k) (hb : s.blk k = some b) (h : CallE X all (s.sub k (some b)) s1 o f ds' r) : CallE X all s s1 o f ds' r := fun hr => e_frz k hb (h hr)

def calleeIs (s : St) (op : Op) (f : FuncId) : Bool := match op with | .call c => (match calleeOf s c with | some (g, _) => Nat.beq g f | none => false) | _ => false
theorem cl {s1 : St} {d : Tmp} (f : FuncId) (hcf : calleeIs s o.op f = true) (hop : o.op = .call c) (hc : calleeOf s c = some (f, caps)) (hdst : o.dst = some d) (h : CallE X all s s1 o f ds' r := by
  first
  | exact Go.Vw.callE_of rfl (Go.Vw.callM_plain rfl rfl rfl Go.Vw.tt rfl Go.Vw.leT)
  | exact Go.Vw.callE_of rfl (Go.Vw.callM_lent true rfl rfl rfl Go.Vw.ff Go.Vw.tt rfl Go.Vw.leT rfl Go.Vw.sc)
  | exact Go.Vw.callE_of rfl (Go.Vw.callM_lent false rfl rfl rfl Go.Vw.ff Go.Vw.tt rfl Go.Vw.leT rfl Go.Vw.sc)
  | exact Go.Vw.callE_frz rfl rfl Go.Vw.tt rfl rfl (Go.Vw.callE_of rfl (Go.Vw.callM_plain rfl rfl rfl Go.Vw.tt rfl Go.Vw.leT))
  | exact Go.Vw.callE_frz rfl rfl Go.Vw.tt rfl rfl (Go.Vw.callE_frz rfl rfl Go.Vw.tt rfl rfl (Go.Vw.callE_of rfl (Go.Vw.callM_plain rfl rfl rfl Go.Vw.tt rfl Go.Vw.leT)))
  | fail) (hr : Ret X.P f ds' (· = r)) (k : awpL X all rest Q (s1.put (some d) (.d r))) : awpL X all (o :: rest) Q s := by
  rw [← hdst] at k
  exact awpL_step (h hr) k
theorem clR {d : Tmp} (f : FuncId) (hcf : calleeIs s o.op f = true) (hop : o.op = .call c) (hc : calleeOf s c = some (f, caps)) (hdst : o.dst = some d) (h : CallM X all s o f ds' r := by
  first
  | exact Go.Vw.callM_plain rfl rfl rfl Go.Vw.tt rfl Go.Vw.leT
  | exact Go.Vw.callM_lent true rfl rfl rfl Go.Vw.ff Go.Vw.tt rfl Go.Vw.leT rfl Go.Vw.sc
  | exact Go.Vw.callM_lent false rfl rfl rfl Go.Vw.ff Go.Vw.tt rfl Go.Vw.leT rfl Go.Vw.sc
  | fail) (hd : dstOk X.N (some d) = true := by exact rfl) (hr : Ret X.P f ds' (· = r)) (k : awpR ex X all pre rest Q (s.put (some d) (.d r))) : awpR ex X all (o :: pre) rest Q s :=
  awpR_cons (isMove_call hop (callee_reg hc)) (isAlloc_call hop) (isLoad_call hop) hdst hd (h hr) k
end

section
variable {T : TypeId → Option TyD} {fn : Func} {x : D} {s : St} {C : Prop} {r : D}
theorem finE (m : Bool) (hd : s.dfs = []) (h : resOf T m s fn.results.toList = some (C, r)) (hC : C) (hR : r = x) : retPost T fn (fun y => y = x) .ret s := ⟨hd, m, C, r, x, h, hC, hR ▸ LeD.refl _, rfl⟩
theorem finLe (m : Bool) (hd : s.dfs = []) (h : resOf T m s fn.results.toList = some (C, r)) (hC : C) (hR : LeD r x) : retPost T fn (fun y => y = x) .ret s := ⟨hd, m, C, r, x, h, hC, hR, rfl⟩
theorem finF (m : Bool) (hd : s.dfs = []) {sz : Nat} {α : Type} {e : α → List D} {z : α} {l l' : List α} (h : resOf T m s fn.results.toList = some (C, .sl sz e z (cut 0 l'.length l'))) (hC : C) (hR : l' = l) : retPost T fn (fun y => y = .sl sz e z l) .ret s := by
  subst hR; exact finLe m hd h hC LeD.full
theorem finC (m : Bool) (hd : s.dfs = []) {sz n : Nat} {α : Type} {e : α → List D} {z : α} {l l' : List α} (h : resOf T m s fn.results.toList = some (C, .sl sz e z (cut 0 n l'))) (hC : C) (hn : n = l'.length) (hR : l' = l) : retPost T fn (fun y => y = .sl sz e z l) .ret s := by
  subst hR; exact finLe m hd h hC (LeD.cutAll hn)
theorem finT (m : Bool) (hd : s.dfs = []) {rs ys : List D} (h : resOf T m s fn.results.toList = some (C, .tup rs)) (hC : C) (hR : LeT rs ys) : retPost T fn (fun y => y = .tup ys) .ret s := finLe m hd h hC (LeD.tup hR)
theorem finA (m : Bool) (hd : s.dfs = []) {rs ys : List D} (h : resOf T m s fn.results.toList = some (C, .agg rs)) (hC : C) (hR : LeL rs ys) : retPost T fn (fun y => y = .agg ys) .ret s := finLe m hd h hC (LeD.agg hR)
theorem finN (hd : s.dfs = []) (h : resOf T true s fn.results.toList = some (C, .nils)) (hC : C) {sz : Nat} {α : Type} {e : α → List D} {z : α} {l : List α} (hR : l = []) : retPost T fn (fun y => y = .sl sz e z l) .ret s := by
  subst hR; exact finLe true hd h hC LeD.nils
theorem finL (m : Bool) (hd : s.dfs = []) {sz n : Nat} {rows : List (List D)} (h : resOf T m s fn.results.toList = some (C, .sl sz (nth [] rows) 0 (iota n 0))) (hC : C) (hn : rows.length = n) {α : Type} {e : α → List D} {z : α} {l l' : List α} (hl : LeR sz rows e l') (hR : l' = l) : retPost T fn (fun y => y = .sl sz e z l) .ret s := by
  subst hR; exact finLe m hd h hC (LeD.lit hn hl)
end

/-! ## Short words: ways and ends -/

section
variable {ex : Bool} {X : Ctx} {all : Array Oper} {Q : Exit → St → Prop} {s : St} {o : Oper} {pre rest : List Oper} {G G1 G2 : Prop}
theorem finG {T : TypeId → Option TyD} {fn : Func} {R : D → Prop} {e : Exit} (k : G) (h : G → retPost T fn R e s := by
  first
  | exact Go.Vw.finF true rfl rfl Go.Vw.sc
  | exact Go.Vw.finF false rfl rfl Go.Vw.sc
  | exact Go.Vw.finC false rfl rfl Go.Vw.sc Go.Vw.sc
  | exact Go.Vw.finN rfl rfl Go.Vw.sc
  | exact Go.Vw.finL true rfl rfl Go.Vw.sc rfl (Go.Vw.LeR.cons rfl Go.Vw.leL Go.Vw.LeR.nil)
  | exact Go.Vw.finE true rfl rfl Go.Vw.sc
  | exact Go.Vw.finE false rfl rfl Go.Vw.sc
  | fail) : retPost T fn R e s := h k
theorem finTG {T : TypeId → Option TyD} {fn : Func} {R : D → Prop} {e : Exit} (k : G) (h : G → retPost T fn R e s := by
  first
  | exact Go.Vw.finF true rfl rfl Go.Vw.sc
  | exact Go.Vw.finF false rfl rfl Go.Vw.sc
  | exact Go.Vw.finC false rfl rfl Go.Vw.sc Go.Vw.sc
  | exact Go.Vw.finN rfl rfl Go.Vw.sc
  | exact Go.Vw.finL true rfl rfl Go.Vw.sc rfl (Go.Vw.LeR.cons rfl Go.Vw.leL Go.Vw.LeR.nil)
  | exact Go.Vw.finT true rfl rfl Go.Vw.sc
  | exact Go.Vw.finT false rfl rfl Go.Vw.sc
  | exact Go.Vw.finE true rfl rfl Go.Vw.sc
  | exact Go.Vw.finE false rfl rfl Go.Vw.sc
  | fail) : retPost T fn R e s := h k
end
end Go.Vw
