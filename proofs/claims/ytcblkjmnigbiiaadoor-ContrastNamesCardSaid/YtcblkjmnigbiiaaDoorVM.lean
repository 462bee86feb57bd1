/-
  States with named slots, loops; entering and leaving a function. Conditions: the table of types is the program's.
-/
import Derived.Test.YtcblkjmnigbiiaaDoorVL
set_option linter.unusedSimpArgs false
set_option linter.unusedVariables false
set_option linter.unusedSectionVars false
namespace Go.Vw
open Go.RowKit

mutual
/-- The keys of the slices in a value. -/
def V.keys : V → List Nat
  | .own k _ _ _ _ => [k]
  | .agg cs => V.keysL cs
  | .tup cs => V.keysL cs
  | .fn _ cs => V.keysL cs
  | _ => []
def V.keysL : List V → List Nat
  | [] => []
  | x :: xs => V.keys x ++ V.keysL xs
end

section
variable {io : Nat → Option Nat} {ln ln' : Nat → Nat} {F : Nat → Prop} {w : World}
mutual
theorem VR.restrict : ∀ (x : V) (v : Value), (∀ k ∈ x.keys, ln k ≤ ln' k) → VR ⟨io, ln⟩ F w x v → VR ⟨io, ln'⟩ F w x v
  | .d x, v, _, h => by simp only [VR] at h ⊢; exact h
  | .own k o n ty sz, v, hk, h => by
      simp only [VR] at h ⊢
      rcases h with h | ⟨b, cap, arr, h1, h2, h3, h4, h5, h6, h7⟩
      · exact .inl h
      · exact .inr ⟨b, cap, arr, h1, h2, h3, h4, h5, h6, Nat.le_trans h7 (hk k (by simp [V.keys]))⟩
  | .ptr k off, v, _, h => by simp only [VR] at h ⊢; exact h
  | .eptr k sz i f, v, _, h => by simp only [VR] at h ⊢; exact h
  | .agg cs, v, hk, h => by simp only [VR] at h ⊢; obtain ⟨a, e, l, h⟩ := h; exact ⟨a, e, l, VRA.restrict cs _ _ (by simpa only [V.keys] using hk) h⟩
  | .tup cs, v, hk, h => by simp only [VR] at h ⊢; obtain ⟨a, e, l, h⟩ := h; exact ⟨a, e, l, VRT.restrict cs _ _ (by simpa only [V.keys] using hk) h⟩
  | .fn f cs, v, hk, h => by simp only [VR] at h ⊢; obtain ⟨a, e, l, h⟩ := h; exact ⟨a, e, l, VRA.restrict cs _ _ (by simpa only [V.keys] using hk) h⟩
theorem VRA.restrict : ∀ (xs : List V) (g : Nat → Option Value) (off : Nat), (∀ k ∈ V.keysL xs, ln k ≤ ln' k) → VRA ⟨io, ln⟩ F w g off xs → VRA ⟨io, ln'⟩ F w g off xs
  | [], _, _, _, _ => by simp only [VRA]
  | x :: xs, g, off, hk, h => by
      simp only [V.keysL, List.mem_append] at hk
      simp only [VRA] at h ⊢
      obtain ⟨⟨v, e, h0, h1⟩, h2⟩ := h
      exact ⟨⟨v, e, h0, VR.restrict x v (fun k h => hk k (.inl h)) h1⟩, VRA.restrict xs _ _ (fun k h => hk k (.inr h)) h2⟩
theorem VRT.restrict : ∀ (xs : List V) (g : Nat → Option Value) (off : Nat), (∀ k ∈ V.keysL xs, ln k ≤ ln' k) → VRT ⟨io, ln⟩ F w g off xs → VRT ⟨io, ln'⟩ F w g off xs
  | [], _, _, _, _ => by simp only [VRT]
  | x :: xs, g, off, hk, h => by
      simp only [V.keysL, List.mem_append] at hk
      simp only [VRT] at h ⊢
      obtain ⟨⟨v, e, h1⟩, h2⟩ := h
      exact ⟨⟨v, e, VR.restrict x v (fun k h => hk k (.inl h)) h1⟩, VRT.restrict xs _ _ (fun k h => hk k (.inr h)) h2⟩
end
end

def lookT : List (Nat × V) → Nat → V
  | [], _ => .d .undef
  | (k, v) :: r, t => bif Nat.beq t k then v else lookT r t
def lookB : List (Nat × Blk) → Nat → Option Blk
  | [], _ => none
  | (k, v) :: r, t => bif Nat.beq t k then some v else lookB r t
def St.of (ts : List (Nat × V)) (bs : List (Nat × Blk)) : St := { tmps := lookT ts, blk := lookB bs, dfs := [] }

def AllT (s : St) : List (Nat × V) → Prop
  | [] => s.dfs = []
  | (k, v) :: r => s.tmps k = v ∧ AllT s r
def AllB (s : St) : List (Nat × Blk) → Prop
  | [] => True
  | (k, v) :: r => s.blk k = some v ∧ AllB s r

theorem lookT_of {s : St} : ∀ {l : List (Nat × V)}, AllT s l → ∀ t, (lookT l t = s.tmps t ∧ ∃ p ∈ l, p.2 = s.tmps t) ∨ lookT l t = .d .undef
  | [], _, t => .inr rfl
  | (k, v) :: r, h, t => by
    simp only [lookT]
    cases hb : Nat.beq t k with
    | true => have := Nat.eq_of_beq_eq_true hb; subst this; left; exact ⟨by simp [h.1], (t, v), by simp, h.1.symm⟩
    | false =>
      rcases lookT_of h.2 t with ⟨h1, p, h2, h3⟩ | h1
      · left; exact ⟨by simpa using h1, p, by simp [h2], h3⟩
      · right; simpa using h1
theorem lookB_of {s : St} : ∀ {l : List (Nat × Blk)}, AllB s l → ∀ k b, lookB l k = some b → s.blk k = some b ∧ ∃ p ∈ l, p = (k, b)
  | [], _, k, b, h => by simp [lookB] at h
  | (k', v) :: r, h, k, b, hl => by
    simp only [lookB] at hl
    cases hb : Nat.beq k k' with
    | true => have := Nat.eq_of_beq_eq_true hb; subst this; rw [hb] at hl; simp at hl; exact ⟨by rw [← hl]; exact h.1, (k, v), by simp, by rw [hl]⟩
    | false =>
      rw [hb] at hl
      obtain ⟨h1, p, h2, h3⟩ := lookB_of h.2 k b (by simpa using hl)
      exact ⟨h1, p, by simp [h2], h3⟩

def hasKey (bs : List (Nat × Blk)) (k : Nat) : Bool := match lookB bs k with | some _ => true | none => false
def keysOk (bs : List (Nat × Blk)) : List Nat → Bool
  | [] => true
  | k :: r => hasKey bs k && keysOk bs r
def coverT (bs : List (Nat × Blk)) : List (Nat × V) → Bool
  | [] => true
  | (_, v) :: r => keysOk bs v.keys && coverT bs r
def coverB (bs : List (Nat × Blk)) : List (Nat × Blk) → Bool
  | [] => true
  | (_, .box _ cs) :: r => keysOk bs (V.keysL cs) && coverB bs r
  | (_, .data _ _ _ _ _) :: r => coverB bs r
  | (_, .hole _ _ _ _ _ _ v) :: r => keysOk bs v.keys && coverB bs r
theorem keysOk_spec {bs : List (Nat × Blk)} : ∀ {l : List Nat}, keysOk bs l = true → ∀ k ∈ l, hasKey bs k = true
  | [], _, k, h => by simp at h
  | a :: l, h, k, hk => by
    simp only [keysOk, Bool.and_eq_true] at h
    rcases List.mem_cons.1 hk with rfl | hk
    · exact h.1
    · exact keysOk_spec h.2 k hk
theorem coverT_spec {bs : List (Nat × Blk)} : ∀ {l : List (Nat × V)}, coverT bs l = true → ∀ p ∈ l, ∀ k ∈ p.2.keys, hasKey bs k = true
  | [], _, p, h => by simp at h
  | (a, v) :: l, h, p, hp => by
    simp only [coverT, Bool.and_eq_true] at h
    rcases List.mem_cons.1 hp with rfl | hp
    · exact keysOk_spec h.1
    · exact coverT_spec h.2 p hp
theorem coverB_spec {bs : List (Nat × Blk)} : ∀ {l : List (Nat × Blk)}, coverB bs l = true → ∀ p ∈ l, ∀ ty cs, p.2 = .box ty cs → ∀ k ∈ V.keysL cs, hasKey bs k = true
  | [], _, p, h => by simp at h
  | (a, .box ty cs) :: l, h, p, hp => by
    simp only [coverB, Bool.and_eq_true] at h
    rcases List.mem_cons.1 hp with rfl | hp
    · intro ty' cs' e; cases e; exact keysOk_spec h.1
    · exact coverB_spec h.2 p hp
  | (a, .data _ _ _ _ _) :: l, h, p, hp => by
    simp only [coverB] at h
    rcases List.mem_cons.1 hp with rfl | hp
    · intro ty' cs' e; cases e
    · exact coverB_spec h p hp
  | (a, .hole _ _ _ _ _ _ _) :: l, h, p, hp => by
    simp only [coverB, Bool.and_eq_true] at h
    rcases List.mem_cons.1 hp with rfl | hp
    · intro ty' cs' e; cases e
    · exact coverB_spec h.2 p hp
theorem coverH_spec {bs : List (Nat × Blk)} : ∀ {l : List (Nat × Blk)}, coverB bs l = true → ∀ p ∈ l, ∀ (ty : TypeId) (sz : Nat) (α : Type) (e : α → List D) (z : α) (l : List α) (i : Nat) (v : V), p.2 = .hole ty sz e z l i v → ∀ k ∈ v.keys, hasKey bs k = true
  | [], _, p, h => by simp at h
  | (a, .box ty cs) :: l, h, p, hp => by
    simp only [coverB, Bool.and_eq_true] at h
    rcases List.mem_cons.1 hp with rfl | hp
    · intro ty sz α e z l i v e'; cases e'
    · exact coverH_spec h.2 p hp
  | (a, .data _ _ _ _ _) :: l, h, p, hp => by
    simp only [coverB] at h
    rcases List.mem_cons.1 hp with rfl | hp
    · intro ty sz α e z l i v e'; cases e'
    · exact coverH_spec h p hp
  | (a, .hole _ _ _ _ _ _ _) :: l, h, p, hp => by
    simp only [coverB, Bool.and_eq_true] at h
    rcases List.mem_cons.1 hp with rfl | hp
    · intro ty sz α e z l i v e'; cases e'; exact keysOk_spec h.1
    · exact coverH_spec h.2 p hp

/-- What is needed of the state, by name; all else is forgotten. -/
theorem allT_dfs {s : St} : ∀ {l : List (Nat × V)}, AllT s l → s.dfs = []
  | [], h => h
  | _ :: _, h => allT_dfs h.2

theorem SR.slots {X : Ctx} {io : Nat → Option Nat} {F : Nat → Prop} {s : St} {a : Act} {w : World} (hs : SR X io F s a w) {ts : List (Nat × V)} {bs : List (Nat × Blk)} (ht : AllT s ts) (hb : AllB s bs) (hc : (coverT bs ts && coverB bs bs) = true) : SR X io F (St.of ts bs) a w := by
  have hd := allT_dfs ht
  simp only [Bool.and_eq_true] at hc
  have hl : ∀ k, hasKey bs k = true → s.ln k ≤ (St.of ts bs).ln k := fun k hk => by
    unfold hasKey at hk
    split at hk
    · rename_i b hb'
      obtain ⟨h1, _⟩ := lookB_of hb k b hb'
      rw [ln_of h1, ln_of (s := St.of ts bs) (b := b) hb']; exact Nat.le_refl _
    · cases hk
  refine ⟨hs.kept, fun t => ?_, hs.nt, ?_, fun k b hk => ?_, fun k k' b h1 h2 => ?_, hs.ff, hs.f0, hs.st⟩
  · rcases lookT_of ht t with ⟨h1, p, h2, h3⟩ | h1
    · show VR _ F w (lookT ts t) _
      rw [h1]
      refine VR.restrict (ln := s.ln) _ _ (fun k hk => hl k ?_) (hs.tm t)
      rw [← h3] at hk
      exact coverT_spec hc.1 p h2 k hk
    · show VR _ F w (lookT ts t) _
      rw [h1]; exact VR.undef _
  · have := hs.df
    rw [hd] at this
    exact this
  · obtain ⟨h1, p, h2, h3⟩ := lookB_of hb k b hk
    have := hs.bl k b h1
    cases b with
    | data ty sz e z l => exact this
    | box ty cells =>
      simp only [BR] at this ⊢
      obtain ⟨b, arr, g1, g2, g3, g4, g5⟩ := this
      exact ⟨b, arr, g1, g2, g3, g4, VRA.restrict (ln := s.ln) _ _ _ (fun k' hk' => hl k' (coverB_spec hc.2 p h2 ty cells (by rw [h3]) k' hk')) g5⟩
    | hole ty sz e z l i v =>
      simp only [BR] at this ⊢
      obtain ⟨b, arr, g1, g2, g3, g4, g5⟩ := this
      obtain ⟨q0, q1, u, q2, q2', q3⟩ := g5
      exact ⟨b, arr, g1, g2, g3, g4, q0, q1, u, q2, q2', VR.restrict (ln := s.ln) _ _ (fun k' hk' => hl k' (coverH_spec hc.2 p h2 ty sz _ e z l i v (by rw [h3]) k' hk')) q3⟩
  · obtain ⟨b1, e1⟩ := Option.ne_none_iff_exists'.1 h1
    obtain ⟨b2, e2⟩ := Option.ne_none_iff_exists'.1 h2
    exact hs.inj k k' b (by rw [(lookB_of hb k b1 e1).1]; simp) (by rw [(lookB_of hb k' b2 e2).1]; simp)

theorem awp_slots {X : Ctx} {c : Code} {Q : Exit → St → Prop} {s : St} (ts : List (Nat × V)) (bs : List (Nat × Blk)) (ht : AllT s ts) (hb : AllB s bs) (h : awp X c Q (St.of ts bs)) (hc : (coverT bs ts && coverB bs bs) = true := by rfl) : awp X c Q s :=
  fun io F a w hs => h io F a w (hs.slots ht hb hc)

/-- A loop whose state at each round's head is given by the slots that are named, their values drawn from a family. -/
theorem awp_loop1 {α : Type} {X : Ctx} {c : Code} {Q : Exit → St → Prop} {s : St} (st : α → List (Nat × V) × List (Nat × Blk)) (I : α → Prop) (mu : α → Nat) (x0 : α) (h0 : I x0) (ht : AllT s (st x0).1) (hb : AllB s (st x0).2)
    (round : ∀ x, I x → awp X c (andThen (fun s' => ∃ y, I y ∧ mu y < mu x ∧ AllT s' (st y).1 ∧ AllB s' (st y).2) Q) (St.of (st x).1 (st x).2)) (hc : ∀ x, (coverT (st x).2 (st x).1 && coverB (st x).2 (st x).2) = true := by exact fun _ => rfl) : awp X (.loop c) Q s := by
  intro io F a w hs b k cs
  have key : ∀ n x io F a w, mu x = n → I x → SR X io F (St.of (st x).1 (st x).2) a w → ∃ e a' w', lift X Q e a' w' ∧ Arrives X.P (lone (b.at a (.code c :: .inLoop c :: k)) cs w) b k cs e a' w' := by
    intro n
    induction n using Nat.strongRecOn with
    | _ n ih =>
      intro x io F a w hn hI hs
      obtain ⟨e, a₁, w₁, hq, harr⟩ := round x hI io F a w hs b (.inLoop c :: k) cs
      obtain ⟨s₁, io₁, F₁, hq, hs₁⟩ := hq
      cases e with
      | normal =>
        obtain ⟨y, hI₁, hlt, hty, hby⟩ := hq
        obtain ⟨e₂, a₂, w₂, hq₂, harr₂⟩ := ih (mu y) (hn ▸ hlt) y io₁ F₁ a₁ w₁ rfl hI₁ (hs₁.slots hty hby (hc y))
        exact ⟨e₂, a₂, w₂, hq₂, .of_steps (Steps.trans harr (.one step_inLoop)) harr₂⟩
      | exit id => exact ⟨_, a₁, w₁, ⟨s₁, io₁, F₁, hq, hs₁⟩, .pass (x := .inLoop c) rfl (fun _ _ => .inl (by simp)) harr⟩
      | goto l => exact ⟨_, a₁, w₁, ⟨s₁, io₁, F₁, hq, hs₁⟩, .pass (x := .inLoop c) rfl (fun _ _ => .inl (by simp)) harr⟩
      | ret => exact ⟨_, a₁, w₁, ⟨s₁, io₁, F₁, hq, hs₁⟩, .pass (x := .inLoop c) rfl (fun _ _ => .inl (by simp)) harr⟩
      | panic ch => exact ⟨_, a₁, w₁, ⟨s₁, io₁, F₁, hq, hs₁⟩, .pass (x := .inLoop c) rfl (fun _ _ => .inl (by simp)) harr⟩
      | outgrown => exact ⟨_, a₁, w₁, ⟨s₁, io₁, F₁, hq, hs₁⟩, .pass (x := .inLoop c) rfl (fun _ _ => .inl (by simp)) harr⟩
  obtain ⟨e, a', w', hq, harr⟩ := key _ x0 io F a w rfl h0 (hs.slots ht hb (hc x0))
  exact ⟨e, a', w', hq, .of_steps (.one step_loop) harr⟩

theorem awp_loop2 {α β : Type} {X : Ctx} {c : Code} {Q : Exit → St → Prop} {s : St} (st : α → β → List (Nat × V) × List (Nat × Blk)) (I : α → β → Prop) (mu : α → β → Nat) (x0 : α) (y0 : β) (h0 : I x0 y0) (ht : AllT s (st x0 y0).1) (hb : AllB s (st x0 y0).2)
    (round : ∀ x y, I x y → awp X c (andThen (fun s' => ∃ x' y', I x' y' ∧ mu x' y' < mu x y ∧ AllT s' (st x' y').1 ∧ AllB s' (st x' y').2) Q) (St.of (st x y).1 (st x y).2)) (hc : ∀ x y, (coverT (st x y).2 (st x y).1 && coverB (st x y).2 (st x y).2) = true := by exact fun _ _ => rfl) : awp X (.loop c) Q s :=
  awp_loop1 (fun p : α × β => st p.1 p.2) (fun p => I p.1 p.2) (fun p => mu p.1 p.2) (x0, y0) h0 ht hb (fun p hp => awp_mono (fun e s h => by
    cases e <;> first | exact h | exact (let ⟨x, y, h⟩ := h; ⟨(x, y), h⟩)) (round p.1 p.2 hp)) (fun p => hc p.1 p.2)
theorem awp_loop3 {α β γ : Type} {X : Ctx} {c : Code} {Q : Exit → St → Prop} {s : St} (st : α → β → γ → List (Nat × V) × List (Nat × Blk)) (I : α → β → γ → Prop) (mu : α → β → γ → Nat) (x0 : α) (y0 : β) (z0 : γ) (h0 : I x0 y0 z0) (ht : AllT s (st x0 y0 z0).1) (hb : AllB s (st x0 y0 z0).2)
    (round : ∀ x y z, I x y z → awp X c (andThen (fun s' => ∃ x' y' z', I x' y' z' ∧ mu x' y' z' < mu x y z ∧ AllT s' (st x' y' z').1 ∧ AllB s' (st x' y' z').2) Q) (St.of (st x y z).1 (st x y z).2)) (hc : ∀ x y z, (coverT (st x y z).2 (st x y z).1 && coverB (st x y z).2 (st x y z).2) = true := by exact fun _ _ _ => rfl) : awp X (.loop c) Q s :=
  awp_loop1 (fun p : α × β × γ => st p.1 p.2.1 p.2.2) (fun p => I p.1 p.2.1 p.2.2) (fun p => mu p.1 p.2.1 p.2.2) (x0, y0, z0) h0 ht hb (fun p hp => awp_mono (fun e s h => by
    cases e <;> first | exact h | exact (let ⟨x, y, z, h⟩ := h; ⟨(x, y, z), h⟩)) (round p.1 p.2.1 p.2.2 hp)) (fun p => hc p.1 p.2.1 p.2.2)

/-- A nil slice taken for an empty block of the call's own. -/
theorem awp_adopt {X : Ctx} {c : Code} {Q : Exit → St → Prop} {s : St} (t k : Nat) (ty : TypeId) (sz : Nat) {α : Type} (e : α → List D) (z : α) (ht : s.tmps t = .d .nils) (h : awp X c Q ((s.new k (.data ty sz e z [])).put (some t) (.own k 0 0 ty sz))) (hK : X.K.contains k = false := by rfl) : awp X c Q s := fun io F a w hs => by
  have hs0 : SR X (updio io k none) F (s.new k (.data ty sz e z [])) a w := SR.setBlk (hs.kill k none (notMem hK)) (by rw [sub_ln_same]; exact Nat.zero_le _) (by simp only [BR]; exact .inl ⟨updio_same _ _ _, trivial⟩) fun j c _ _ _ h => by rw [updio_same] at h; cases h
  refine h (updio io k none) F a w ⟨hs0.kept, fun u => ?_, hs0.nt, hs0.df, hs0.bl, hs0.inj, hs0.ff, hs0.f0, hs0.st⟩
  rw [put_keys]
  simp only [St.put]
  cases hb : Nat.beq u t with
  | true =>
    have := Nat.eq_of_beq_eq_true hb
    subst this
    have hv := hs.tm u
    rw [ht] at hv
    simp only [VR, DR] at hv
    simp only [cond_true, VR]
    exact .inl ⟨updio_same _ _ _, hv, trivial, trivial⟩
  | false => simpa using hs0.tm u

/-- A nil slice taken for an empty list. -/
theorem awp_nils {X : Ctx} {c : Code} {Q : Exit → St → Prop} {s : St} (t : Nat) (sz : Nat) {α : Type} (e : α → List D) (z : α) (ht : s.tmps t = .d .nils) (h : awp X c Q (s.put (some t) (.d (.sl sz e z [])))) : awp X c Q s := fun io F a w hs => by
  refine h io F a w ⟨hs.kept, fun u => ?_, hs.nt, hs.df, hs.bl, hs.inj, hs.ff, hs.f0, hs.st⟩
  rw [put_keys]
  simp only [St.put]
  cases hb : Nat.beq u t with
  | true =>
    have := Nat.eq_of_beq_eq_true hb
    subst this
    have hv := hs.tm u
    rw [ht] at hv
    simp only [cond_true, VR] at hv ⊢
    exact LeD.nils F w _ hv
  | false => simpa using hs.tm u

/-! ## Leaving a function -/

/-- A value as it is handed back: blocks of the call's own become data. -/
def outAll (m : Bool) (s : St) : List V → Ev (List D) := V.asDs m s

def resOne (T : TypeId → Option TyD) (s : St) : ResultVar → Option V
  | .tmp t => some (s.tmps t)
  | .cell a t => match T t, s.tmps a with
    | some td, .ptr k o => match s.blk k with
      | some (.box _ cells) => takeV td cells o
      | _ => none
    | _, _ => none
def resAll (T : TypeId → Option TyD) (s : St) : List ResultVar → Option (List V)
  | [] => some []
  | r :: rs => match resOne T s r, resAll T s rs with | some x, some xs => some (x :: xs) | _, _ => none
def resOf (T : TypeId → Option TyD) (m : Bool) (s : St) (rs : List ResultVar) : Ev D :=
  match resAll T s rs with
  | some [x] => V.asD m s x
  | some xs => match V.asDs m s xs with | some (C, ds) => some (C, .tup ds) | none => none
  | none => none

/-- One result, read. -/
def runRes (tmps : Array Value) : ResultVar → Sem Value
  | .tmp t => pure (tmps.getD t Go.undef)
  | .cell b t => do loadVar t (← asAddr (tmps.getD b Go.undef))

theorem results_eq (fn : Func) (tmps : Array Value) : results fn tmps = (do let vs ← fn.results.mapM (runRes tmps); pure (if h : vs.size = 1 then vs[0] else .tuple vs)) := by
  unfold results
  have : (fun x : ResultVar => match x with
    | .tmp t => (pure (tmps.getD t Go.undef) : Sem Value)
    | .cell a t => do loadVar t (← asAddr (tmps.getD a Go.undef))) = runRes tmps := by
    funext r; cases r <;> rfl
  exact congrArg (fun f => (do let vs ← fn.results.mapM f; pure (if h : vs.size = 1 then vs[0] else .tuple vs) : Sem Value)) this

section
variable {X : Ctx} {T : TypeId → Option TyD} {io : Nat → Option Nat} {F : Nat → Prop} {s : St} {a : Act} {w : World}

theorem resOne_sound (hT : TabOk X.P T) (hs : SR X io F s a w) {r : ResultVar} {y : V} (h : resOne T s r = some y) :
    ∃ v, (runRes a.tmps r).run X.P w = .ok v w ∧ VR (s.keys io) F w y v := by
  cases r with
  | tmp t =>
    simp only [resOne, Option.some.injEq] at h; subst h
    exact ⟨_, rfl, hs.tm t⟩
  | cell b t =>
    simp only [resOne] at h
    split at h
    · rename_i td k o htd hp
      split at h
      · rename_i ty cells hk
        have ha := hs.tm b
        rw [hp] at ha
        simp only [VR] at ha
        obtain ⟨c, hc, e⟩ := ha
        have hbr := hs.bl k _ hk
        simp only [BR] at hbr
        obtain ⟨c', arr, hc', _, _, hh, hr⟩ := hbr
        rw [hc'] at hc; cases hc
        obtain ⟨v, hv, hd⟩ := takeV_sound (P := X.P) (hT _ _ htd) hh hr h
        refine ⟨v, ?_, hd⟩
        simp only [runRes, e, asAddr, Sem.run_bind, Sem.run_pure, Result.andThen_ok]
        simpa using hv
      · cases h
    · cases h

theorem resAll_sound (hT : TabOk X.P T) (hs : SR X io F s a w) : ∀ (rs : List ResultVar) {ys : List V}, resAll T s rs = some ys →
    ∃ vs, (rs.mapM (runRes a.tmps)).run X.P w = .ok vs w ∧ vs.length = ys.length ∧ VRT (s.keys io) F w (fun i => vs[i]?) 0 ys
  | [], ys, h => by
    simp only [resAll, Option.some.injEq] at h; subst h
    exact ⟨[], rfl, rfl, by simp only [VRT]⟩
  | r :: rs, ys, h => by
    simp only [resAll] at h
    split at h
    · rename_i x xs h1 h2
      simp only [Option.some.injEq] at h; subst h
      obtain ⟨v, hv, hd⟩ := resOne_sound hT hs h1
      obtain ⟨vs, hvs, hl, hds⟩ := resAll_sound hT hs rs h2
      refine ⟨v :: vs, ?_, by simp [hl], ?_⟩
      · simp only [List.mapM_cons, Sem.run_bind, hv, Result.andThen_ok, hvs, Sem.run_pure]
      · rw [VRT_iff] at hds ⊢
        intro i c hi
        cases i with
        | zero => simp at hi; subst hi; exact ⟨v, by simp, hd⟩
        | succ i =>
          simp at hi
          obtain ⟨u, h1, h2⟩ := hds i c hi
          exact ⟨u, by simpa using h1, h2⟩
    · cases h

theorem run_results (fn : Func) {vs : List Value} (hvs : (fn.results.toList.mapM (runRes a.tmps)).run X.P w = .ok vs w) : (results fn a.tmps).run X.P w = .ok (if h : vs.length = 1 then vs[0] else .tuple vs.toArray) w := by
  rw [results_eq]
  simp only [Sem.run_bind]
  rw [Array.mapM_eq_mapM_toList]
  simp only [Sem.run_map]
  rw [hvs]
  simp only [Result.andThen_ok, Sem.run_pure]
  by_cases h : vs.length = 1
  · simp [h]
  · simp [h]

theorem resOf_sound (hT : TabOk X.P T) (hs : SR X io F s a w) (fn : Func) {m : Bool} {C : Prop} {y : D} (h : resOf T m s fn.results.toList = some (C, y)) (hC : C) :
    ∃ v, (results fn a.tmps).run X.P w = .ok v w ∧ DR (Lent s io F) w y v := by
  unfold resOf at h
  split at h
  · rename_i x hr
    obtain ⟨vs, hvs, hl, hd⟩ := resAll_sound hT hs _ hr
    obtain ⟨v, rfl⟩ := List.length_eq_one_iff.1 (show vs.length = 1 by simpa using hl)
    simp only [VRT] at hd
    obtain ⟨⟨u, hu, hd⟩, _⟩ := hd
    simp at hu; subst hu
    exact ⟨v, by rw [run_results fn hvs]; simp, asD_sound hs.bl x v h hC hd⟩
  · rename_i xs hne hr
    split at h
    · rename_i C' ds hds
      simp only [Option.some.injEq, Prod.mk.injEq] at h; obtain ⟨rfl, rfl⟩ := h
      obtain ⟨vs, hvs, hl, hd⟩ := resAll_sound hT hs _ hr
      have hn1 : vs.length ≠ 1 := fun e => by
        obtain ⟨x, hx⟩ := List.length_eq_one_iff.1 (hl.symm.trans e)
        subst hx
        exact hne _ rfl
      refine ⟨_, run_results fn hvs, ?_⟩
      rw [dif_neg hn1]
      obtain ⟨q1, q2⟩ := asTs_sound hs.bl xs hds hC _ _ hd
      simp only [DR]
      exact ⟨vs.toArray, rfl, by simp; omega, by simpa using q2⟩
    · cases h
  · cases h
end

def retPost (T : TypeId → Option TyD) (fn : Func) (R : D → Prop) : Exit → St → Prop
  | .normal, s | .ret, s => s.dfs = [] ∧ ∃ m C r r', resOf T m s fn.results.toList = some (C, r) ∧ C ∧ LeD r r' ∧ R r'
  | _, _ => False

def St.init (ds : List D) : St := { tmps := fun t => .d (nth .undef ds t), blk := fun _ => none, dfs := [] }

theorem nth_none {α : Type 1} {d : α} : ∀ {l : List α} {i : Nat}, l.length ≤ i → nth d l i = d
  | [], i, h => rfl
  | r :: rs, 0, h => by simp at h
  | r :: rs, i + 1, h => by simp at h; simp [nth, nth_none h]

/-- The state at a function's beginning. -/
theorem sr_init {P : Program} {T : TypeId → Option TyD} (hT : TabOk P T) {N : Nat} {w : World} {F : Nat → Prop} {ds : List D} {vs : Array Value} (hl : vs.size = ds.length) (hn : ds.length ≤ N) (hF : ∀ b, F b → b < w.heap.size) (hv : DRT F w (fun i => vs[i]?) 0 ds) : SR ⟨P, T, hT, N, w, fun _ => False, F, [], fun _ => none⟩ (fun _ => none) F (St.init ds) { tmps := vs ++ Array.replicate (N - vs.size) undef, defers := [] } w := by
  refine ⟨⟨rfl, rfl, rfl, Nat.le_refl _, fun _ _ _ => rfl, Shapes.refl _⟩, fun t => ?_, by simp; omega, rfl, fun k b h => by simp [St.init] at h, fun k k' b h => by simp [St.init] at h, fun b h => ⟨hF b h, .inl h⟩, fun b h => h, fun k hk => by simp at hk⟩
  simp only [St.init, VR]
  by_cases ht : t < vs.size
  · have hx := List.getElem?_eq_getElem (show t < ds.length by omega)
    obtain ⟨v, h1, h2⟩ := DRT_iff.1 hv t _ hx
    simp only [Nat.zero_add] at h1
    rw [nth_of hx]
    have : (vs ++ Array.replicate (N - vs.size) undef).getD t undef = v := by
      rw [Array.getD_eq_getD_getElem?, Array.getElem?_append_left ht, h1]; rfl
    rw [this]; exact h2
  · rw [nth_none (by omega)]; simp only [DR]

/-- All that lies in the data's blocks or in new ones. -/
theorem lent_new {X : Ctx} {io : Nat → Option Nat} {F : Nat → Prop} {s : St} {a : Act} {w : World} (hs : SR X io F s a w) (hA : ∀ b, ¬ X.A b) : ∀ b, Lent s io F b → X.F0 b ∨ (X.w0.heap.size ≤ b ∧ b < w.heap.size) := fun b h => by
  rcases h with h | ⟨k, hk, e⟩
  · obtain ⟨h1, h2⟩ := hs.ff b h
    rcases h2 with h2 | h2 | h2
    · exact .inl h2
    · exact .inr ⟨h2, h1⟩
    · exact (hA b h2).elim
  · obtain ⟨bl, hbl⟩ := Option.ne_none_iff_exists'.1 hk
    have := hs.bl k bl hbl
    have : b < w.heap.size ∧ (X.A b ∨ X.w0.heap.size ≤ b) := by
      cases bl with
      | data ty sz e' z l =>
        simp only [BR] at this
        rcases this with ⟨h0, _⟩ | ⟨c', arr, g1, _, g3, g4, _⟩
        · rw [show io k = none from h0] at e; cases e
        · rw [show io k = some c' from g1] at e; cases e; exact ⟨lt_of_heap g4, g3⟩
      | box ty cells =>
        simp only [BR] at this
        obtain ⟨c', arr, g1, _, g3, g4, _⟩ := this
        rw [show io k = some c' from g1] at e; cases e; exact ⟨lt_of_heap g4, g3⟩
      | hole ty sz e' z l i v =>
        simp only [BR] at this
        obtain ⟨c', arr, g1, _, g3, g4, _⟩ := this
        rw [show io k = some c' from g1] at e; cases e; exact ⟨lt_of_heap g4, g3⟩
    exact .inr ⟨this.2.resolve_left (hA b), this.1⟩

/-- **A contract out of a walk of the body.** -/
theorem ret_of_awp {P : Program} {T : TypeId → Option TyD} (hT : TabOk P T) {f : FuncId} {fn : Func} {c : Code} (hf : P.funcs[f]? = some fn) (hname : (fn.name == "runtime.NumGoroutine") = false) (hb : fn.body = some c) {ds : List D} (hn : ds.length ≤ fn.ntmps) {R : D → Prop}
    (h : ∀ w0 F0, awp ⟨P, T, hT, fn.ntmps, w0, fun _ => False, F0, [], fun _ => none⟩ c (retPost T fn R) (St.init ds)) : Ret P f ds R := by
  refine ⟨⟨fn, hf, hname, by rw [hb]; rfl⟩, fun F w vs hF hl hv => ?_⟩
  refine calls_of_wp hf hb ?_
  refine wp_mono (h w F _ _ _ _ (sr_init hT hl hn hF hv)) fun e a' w' ⟨s', io', F', hq, hs'⟩ => ?_
  have fin : (s'.dfs = [] ∧ ∃ m C r r', resOf T m s' fn.results.toList = some (C, r) ∧ C ∧ LeD r r' ∧ R r') → a'.defers = [] ∧ ∃ v, (results fn a'.tmps).run P w' = .ok v w' ∧ ∃ v' r F'', Ending.returned v = .returned v' ∧ R r ∧ Below w.heap.size w w' ∧ (∀ b, F b → F'' b) ∧ (∀ b, F'' b → F b ∨ (w.heap.size ≤ b ∧ b < w'.heap.size)) ∧ DR F'' w' r v' := fun ⟨hd, m, C, r, r', h1, h2, hle, h3⟩ => by
    obtain ⟨v, hv, hd'⟩ := resOf_sound hT hs' fn h1 h2
    have hdf := hs'.df
    rw [hd] at hdf
    exact ⟨hdf, v, hv, v, r', Lent s' io' F', rfl, h3, ⟨hs'.kept.os, hs'.kept.tape, hs'.kept.output, hs'.kept.size, fun k hk => hs'.kept.block k hk fun h => h⟩, fun b h => .inl (hs'.f0 b h), fun b h => lent_new hs' (fun _ h => h) b h, hle _ _ _ hd'⟩
  cases e <;> simp only [retPost] at hq <;> first | exact hq.elim | exact fin hq
end Go.Vw
