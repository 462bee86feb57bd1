/-
  Entering and leaving a function. Conditions: the table of types is the program's.
-/
import Derived.Test.YtcblkjmnigbiiaaDoorAbsJ
set_option autoImplicit false
set_option linter.unusedSimpArgs false
set_option linter.unusedVariables false
namespace Go.Ab
open Go.RowKit

/-- A value as it is handed back: blocks of the call's own become data. -/
def outC (s : St) : V → Option D
  | .d x => some x.norm
  | .own k n _ sz => match s.blk k with | some (.data _ cells) => some (.sl n (cells.take (n * sz))) | _ => none
  | _ => none
def outL (s : St) : List V → Option (List D)
  | [] => some []
  | x :: xs => match outC s x, outL s xs with | some y, some ys => some (y :: ys) | _, _ => none
def outV (s : St) : V → Option D
  | .agg cs => match outL s cs with | some ds => some (.agg ds) | none => none
  | x => outC s x

def resOne (T : TypeId → Option TyD) (s : St) : ResultVar → Ev D
  | .tmp t => match outV s (s.tmps t) with | some x => some (True, x) | none => none
  | .cell a t => match T t, s.tmps a with
    | some td, .ptr k o => match s.blk k with
      | some (.box _ cells) => match takeV td cells o with
        | (C, x) => match outV s x with | some y => some (C, y) | none => none
      | _ => none
    | _, _ => none
def resAll (T : TypeId → Option TyD) (s : St) : List ResultVar → Ev (List D)
  | [] => some (True, [])
  | r :: rs => match resOne T s r, resAll T s rs with | some (C, x), some (C', xs) => some (C ∧ C', x :: xs) | _, _ => none
def resOf (T : TypeId → Option TyD) (s : St) (rs : List ResultVar) : Ev D :=
  match resAll T s rs with
  | some (C, [x]) => some (C, x)
  | some (C, xs) => some (C, .tup xs)
  | none => none

/-- One result, read. -/
def runRes (tmps : Array Value) : ResultVar → Sem Value
  | .tmp t => pure (tmps.getD t Go.undef)
  | .cell b t => do loadVar t (← asAddr (tmps.getD b Go.undef))

theorem results_eq (fn : Func) (tmps : Array Value) : results fn tmps = (do let vs ← fn.results.mapM (runRes tmps); pure (if h : vs.size = 1 then vs[0] else .tuple vs)) := by
  unfold results
  have : (fun x : ResultVar => match x with
    | .tmp t => (pure (tmps.getD t Go.undef) : Sem Value)
    | .cell a t => do loadVar t (← asAddr (tmps.getD a Go.undef))) = runRes tmps := by
    funext r; cases r <;> rfl
  exact congrArg (fun f => (do let vs ← fn.results.mapM f; pure (if h : vs.size = 1 then vs[0] else .tuple vs) : Sem Value)) this

def retPost (T : TypeId → Option TyD) (fn : Func) (R : D → Prop) : Exit → St → Prop
  | .normal, s | .ret, s => ∃ C r, resOf T s fn.results.toList = some (C, r) ∧ C ∧ R r
  | _, _ => False

def St.init (ds : List D) : St := { tmps := fun t => .d (ds.getD t .undef), blk := fun _ => none }

/-- All that lies in the data's blocks or in new ones. -/
def Out (F : Nat → Prop) (w0 w : World) : Nat → Prop := fun b => F b ∨ (w0.heap.size ≤ b ∧ b < w.heap.size)

section
variable {X : Ctx} {T : TypeId → Option TyD} {io : Nat → Option Nat} {F : Nat → Prop} {s : St} {a : Act} {w : World}

theorem out_le (hs : SR X io F s a w) : ∀ b, F b → Out X.F0 X.w0 w b := fun b h => by
  have := hs.ff b h
  rcases this.2 with h' | h'
  · exact .inl h'
  · exact .inr ⟨h', this.1⟩

theorem outC_sound (hs : SR X io F s a w) (hA : ∀ b, ¬ X.A b) {x : V} {y : D} {v : Value} (h : outC s x = some y) (hx : VR io F w x v) : DR (Out X.F0 X.w0 w) w y v := by
  cases x <;> simp only [outC] at h <;> try (cases h; done)
  · simp only [Option.some.injEq] at h; subst h
    exact DR.norm (DR.mono (out_le hs) (fun _ _ => rfl) _ _ (by simpa only [VR] using hx))
  · split at h
    · rename_i k n ty sz _ ty' cells hk
      simp only [Option.some.injEq] at h; subst h
      have hb := hs.bl k _ hk
      simp only [BR] at hb
      simp only [VR] at hx
      simp only [DR]
      rcases hx with ⟨hio, rfl, rfl⟩ | ⟨b, cap, arr, hio, rfl, hc, _, hh, _⟩
      · left; simp
      · rcases hb with ⟨h, _⟩ | ⟨b', arr', vals, h1, hF, hAb, hh', hr, hl⟩
        · rw [hio] at h; cases h
        · rw [hio] at h1; cases h1
          refine .inr ⟨b, 0, cap, arr', ty', (0, 0), vals.take (n * sz), rfl, hc, ?_, hh', hr.take _, DRL.take _ (DRL.mono (out_le hs) (fun _ _ => rfl) _ _ hl)⟩
          rcases hAb with h | h
          · exact (hA b h).elim
          · exact .inr ⟨h, lt_of_heap hh'⟩
    · cases h

theorem outV_sound (hs : SR X io F s a w) (hA : ∀ b, ¬ X.A b) {x : V} {y : D} {v : Value} (h : outV s x = some y) (hx : VR io F w x v) : DR (Out X.F0 X.w0 w) w y v := by
  unfold outV at h
  split at h
  · rename_i cs
    split at h
    · rename_i ds hds
      simp only [Option.some.injEq] at h; subst h
      simp only [VR] at hx
      obtain ⟨arr, rfl, hl⟩ := hx
      simp only [DR]
      refine ⟨arr, rfl, ?_⟩
      have : ∀ (cs : List V) (ds : List D) (vs : List Value), outL s cs = some ds → VRL io F w cs vs → DRL (Out X.F0 X.w0 w) w ds vs := by
        intro cs
        induction cs with
        | nil => intro ds vs h hv; simp [outL] at h; subst h; simpa only [VRL, DRL] using hv
        | cons x xs ih =>
          intro ds vs h hv
          simp only [outL] at h
          split at h
          · rename_i y ys g1 g2
            simp only [Option.some.injEq] at h; subst h
            simp only [VRL] at hv
            obtain ⟨v, rest, rfl, h0, h1, h2⟩ := hv
            exact ⟨v, rest, rfl, h0, outC_sound hs hA g1 h1, ih _ _ g2 h2⟩
          · cases h
      exact this cs ds _ hds hl
    · cases h
  · exact outC_sound hs hA h hx

theorem resOne_sound (hT : TabOk X.P T) (hs : SR X io F s a w) (hA : ∀ b, ¬ X.A b) {r : ResultVar} {C : Prop} {y : D} (h : resOne T s r = some (C, y)) (hC : C) :
    ∃ v, (runRes a.tmps r).run X.P w = .ok v w ∧ DR (Out X.F0 X.w0 w) w y v := by
  cases r with
  | tmp t =>
    simp only [resOne] at h
    split at h
    · rename_i x hx
      simp only [Option.some.injEq, Prod.mk.injEq] at h; obtain ⟨rfl, rfl⟩ := h
      exact ⟨_, rfl, outV_sound hs hA hx (hs.tm t)⟩
    · cases h
  | cell b t =>
    simp only [resOne] at h
    split at h
    · rename_i td k o htd hp
      split at h
      · rename_i ty cells hk
        generalize htk : takeV td cells o = p at h
        obtain ⟨C', x⟩ := p
        simp only at h
        split at h
        · rename_i y' hy
          simp only [Option.some.injEq, Prod.mk.injEq] at h; obtain ⟨rfl, rfl⟩ := h
          have ha := hs.tm b
          rw [hp] at ha
          simp only [VR] at ha
          obtain ⟨c, hc, e⟩ := ha
          have hbr := hs.bl k _ hk
          simp only [BR] at hbr
          obtain ⟨c', arr, vals, hc', _, _, hh, hr, hl⟩ := hbr
          rw [hc'] at hc; cases hc
          have hload := takeV_sound (P := X.P) (hT _ _ htd) (o := o) hh hr hl (by rw [htk]; exact hC)
          rw [htk] at hload
          obtain ⟨v, hv, hd⟩ := hload
          refine ⟨v, ?_, outV_sound hs hA hy hd⟩
          simp only [runRes, e, asAddr, Sem.run_bind, Sem.run_pure, Result.andThen_ok]
          simpa using hv
        · cases h
      · cases h
    · cases h

theorem resAll_sound (hT : TabOk X.P T) (hs : SR X io F s a w) (hA : ∀ b, ¬ X.A b) : ∀ (rs : List ResultVar) {C : Prop} {ys : List D}, resAll T s rs = some (C, ys) → C →
    ∃ vs, (rs.mapM (runRes a.tmps)).run X.P w = .ok vs w ∧ DRT (Out X.F0 X.w0 w) w ys vs
  | [], C, ys, h, hC => by
    simp only [resAll, Option.some.injEq, Prod.mk.injEq] at h; obtain ⟨rfl, rfl⟩ := h
    exact ⟨[], rfl, by simp [DRT]⟩
  | r :: rs, C, ys, h, hC => by
    simp only [resAll] at h
    split at h
    · rename_i C1 x C2 xs h1 h2
      simp only [Option.some.injEq, Prod.mk.injEq] at h; obtain ⟨rfl, rfl⟩ := h
      obtain ⟨v, hv, hd⟩ := resOne_sound hT hs hA h1 hC.1
      obtain ⟨vs, hvs, hds⟩ := resAll_sound hT hs hA rs h2 hC.2
      refine ⟨v :: vs, ?_, by simp only [DRT]; exact ⟨v, vs, rfl, hd, hds⟩⟩
      simp only [List.mapM_cons, Sem.run_bind, hv, Result.andThen_ok, hvs, Sem.run_pure]
    · cases h

theorem resOf_sound (hT : TabOk X.P T) (hs : SR X io F s a w) (hA : ∀ b, ¬ X.A b) (fn : Func) {C : Prop} {y : D} (h : resOf T s fn.results.toList = some (C, y)) (hC : C) :
    ∃ v, (results fn a.tmps).run X.P w = .ok v w ∧ DR (Out X.F0 X.w0 w) w y v := by
  unfold resOf at h
  have run : ∀ vs, (fn.results.toList.mapM (runRes a.tmps)).run X.P w = .ok vs w → (results fn a.tmps).run X.P w = .ok (if h : vs.length = 1 then vs[0] else .tuple vs.toArray) w := fun vs hvs => by
    rw [results_eq]
    simp only [Sem.run_bind]
    rw [Array.mapM_eq_mapM_toList]
    simp only [Sem.run_map]
    rw [hvs]
    simp only [Result.andThen_ok, Sem.run_pure]
    by_cases h : vs.length = 1
    · simp [h]
    · simp [h]
  split at h
  · rename_i C' x hr
    simp only [Option.some.injEq, Prod.mk.injEq] at h; obtain ⟨rfl, rfl⟩ := h
    obtain ⟨vs, hvs, hd⟩ := resAll_sound hT hs hA _ hr hC
    simp only [DRT] at hd
    obtain ⟨v, rest, rfl, hd, rfl⟩ := hd
    exact ⟨v, by rw [run _ hvs]; simp, hd⟩
  · rename_i C' xs hne hr
    simp only [Option.some.injEq, Prod.mk.injEq] at h; obtain ⟨rfl, rfl⟩ := h
    obtain ⟨vs, hvs, hd⟩ := resAll_sound hT hs hA _ hr hC
    have hl : vs.length ≠ 1 := fun e => by
      have hdl : ∀ (ys : List D) (us : List Value), DRT (Out X.F0 X.w0 w) w ys us → us.length = ys.length := by
        intro ys
        induction ys with
        | nil => intro us h; simp only [DRT] at h; simp [h]
        | cons y ys ih => intro us h; simp only [DRT] at h; obtain ⟨v, rest, rfl, _, h2⟩ := h; simp [ih _ h2]
      have := hdl _ _ hd
      rw [e] at this
      obtain ⟨x, hx⟩ := List.length_eq_one_iff.1 this.symm
      subst hx
      exact hne _ rfl
    refine ⟨_, run _ hvs, ?_⟩
    rw [dif_neg hl]
    simp only [DR]
    exact ⟨_, rfl, hd⟩
  · cases h
end

theorem DRT.get {F : Nat → Prop} {w : World} : ∀ {xs : List D} {vs : List Value}, DRT F w xs vs → vs.length = xs.length ∧ ∀ (i : Nat), DR F w (xs.getD i .undef) (vs.getD i Go.undef)
  | [], vs, h => by
    simp only [DRT] at h; subst h
    exact ⟨rfl, fun i => by simp [DR]⟩
  | x :: xs, vs, h => by
    simp only [DRT] at h
    obtain ⟨v, rest, rfl, h1, h2⟩ := h
    obtain ⟨hl, hg⟩ := DRT.get h2
    refine ⟨by simp [hl], fun i => ?_⟩
    cases i with
    | zero => simpa using h1
    | succ i => simpa using hg i

/-- **A contract out of a walk of the body.** -/
theorem ret_of_awp {P : Program} {T : TypeId → Option TyD} (hT : TabOk P T) {f : FuncId} {fn : Func} {c : Code} (hf : P.funcs[f]? = some fn) (hname : (fn.name == "runtime.NumGoroutine") = false) (hb : fn.body = some c) {ds : List D} (hn : ds.length ≤ fn.ntmps) {R : D → Prop}
    (h : ∀ w0 F0, awp ⟨P, fn.ntmps, w0, fun _ => False, F0⟩ c (retPost T fn R) (St.init ds)) : Ret P f ds R := by
  refine ⟨⟨fn, hf, hname, by rw [hb]; rfl⟩, fun F w vs hF hv => ?_⟩
  obtain ⟨hlen, hget⟩ := DRT.get hv
  refine calls_of_wp hf hb ?_
  have hs : SR ⟨P, fn.ntmps, w, fun _ => False, F⟩ (fun _ => none) F (St.init ds) { tmps := vs ++ Array.replicate (fn.ntmps - vs.size) undef, defers := [] } w := by
    have hsz : vs.size = ds.length := by simpa using hlen
    refine ⟨⟨rfl, rfl, rfl, Nat.le_refl _, fun _ _ _ => rfl⟩, fun t => ?_, by simp; omega, rfl, fun k b h => by simp [St.init] at h, fun k k' b h => by simp [St.init] at h, fun b h => ⟨hF b h, .inl h⟩, fun b h => h⟩
    simp only [St.init, VR]
    have hg := hget t
    by_cases ht : t < vs.size
    · have : (vs ++ Array.replicate (fn.ntmps - vs.size) undef).getD t undef = vs.toList.getD t Go.undef := by
        simp [Array.getD_eq_getD_getElem?, List.getD, Array.getElem?_append_left ht]
      rw [this]; exact hg
    · have : ds.getD t D.undef = .undef := by
        simp [List.getD, List.getElem?_eq_none (show ds.length ≤ t by omega)]
      rw [this]; simp only [DR]
  refine wp_mono (h w F _ _ _ _ hs) fun e a' w' ⟨s', io', F', hq, hs'⟩ => ?_
  have fin : (∃ C r, resOf T s' fn.results.toList = some (C, r) ∧ C ∧ R r) → a'.defers = [] ∧ ∃ v, (results fn a'.tmps).run P w' = .ok v w' ∧ ∃ v' r F'', Ending.returned v = .returned v' ∧ R r ∧ Below w.heap.size w w' ∧ (∀ b, F b → F'' b) ∧ (∀ b, F'' b → F b ∨ (w.heap.size ≤ b ∧ b < w'.heap.size)) ∧ DR F'' w' r v' := fun ⟨C, r, h1, h2, h3⟩ => by
    obtain ⟨v, hv, hd⟩ := resOf_sound hT hs' (fun b h => h) fn h1 h2
    exact ⟨hs'.df, v, hv, v, r, Out F w w', rfl, h3, ⟨hs'.kept.os, hs'.kept.tape, hs'.kept.output, hs'.kept.size, fun k hk => hs'.kept.block k hk fun h => h⟩, fun b h => .inl h, fun b h => h, hd⟩
  cases e <;> simp only [retPost] at hq <;> first | exact hq.elim | exact fin hq

/-! ## A state with named slots -/

def lookT : List (Nat × V) → Nat → V
  | [], _ => .d .undef
  | (k, v) :: r, t => bif Nat.beq t k then v else lookT r t
def lookB : List (Nat × Blk) → Nat → Option Blk
  | [], _ => none
  | (k, v) :: r, t => bif Nat.beq t k then some v else lookB r t
def St.of (ts : List (Nat × V)) (bs : List (Nat × Blk)) : St := { tmps := lookT ts, blk := lookB bs }

def AllT (s : St) : List (Nat × V) → Prop
  | [] => True
  | (k, v) :: r => s.tmps k = v ∧ AllT s r
def AllB (s : St) : List (Nat × Blk) → Prop
  | [] => True
  | (k, v) :: r => s.blk k = some v ∧ AllB s r

theorem lookT_of {s : St} : ∀ {l : List (Nat × V)}, AllT s l → ∀ t, lookT l t = s.tmps t ∨ lookT l t = .d .undef
  | [], _, t => .inr rfl
  | (k, v) :: r, h, t => by
    simp only [lookT]
    cases hb : Nat.beq t k with
    | true => have := Nat.eq_of_beq_eq_true hb; subst this; left; simp [h.1]
    | false => simpa using lookT_of h.2 t
theorem lookB_of {s : St} : ∀ {l : List (Nat × Blk)}, AllB s l → ∀ k b, lookB l k = some b → s.blk k = some b
  | [], _, k, b, h => by simp [lookB] at h
  | (k', v) :: r, h, k, b, hl => by
    simp only [lookB] at hl
    cases hb : Nat.beq k k' with
    | true => have := Nat.eq_of_beq_eq_true hb; subst this; rw [hb] at hl; simp at hl; rw [← hl]; exact h.1
    | false => rw [hb] at hl; exact lookB_of h.2 k b (by simpa using hl)

/-- What is needed of the state, by name; all else is forgotten. -/
theorem awp_slots {X : Ctx} {c : Code} {Q : Exit → St → Prop} {s : St} (ts : List (Nat × V)) (bs : List (Nat × Blk)) (ht : AllT s ts) (hb : AllB s bs) (h : awp X c Q (St.of ts bs)) : awp X c Q s :=
  awp_weaken (lookT_of ht) (lookB_of hb) h

/-- A loop whose state at each round's head is given by the slots that are named, their values drawn from a family. -/
theorem awp_loopS {α : Type} {X : Ctx} {c : Code} {Q : Exit → St → Prop} {s : St} (st : α → List (Nat × V) × List (Nat × Blk)) (I : α → Prop) (mu : α → Nat) (x0 : α) (h0 : I x0) (ht : AllT s (st x0).1) (hb : AllB s (st x0).2)
    (round : ∀ x, I x → awp X c (andThen (fun s' => ∃ y, I y ∧ mu y < mu x ∧ AllT s' (st y).1 ∧ AllB s' (st y).2) Q) (St.of (st x).1 (st x).2)) : awp X (.loop c) Q s := by
  intro io F a w hs b k cs
  have key : ∀ n x io F a w, mu x = n → I x → SR X io F (St.of (st x).1 (st x).2) a w → ∃ e a' w', lift X Q e a' w' ∧ Arrives X.P (lone (b.at a (.code c :: .inLoop c :: k)) cs w) b k cs e a' w' := by
    intro n
    induction n using Nat.strongRecOn with
    | _ n ih =>
      intro x io F a w hn hI hs
      obtain ⟨e, a₁, w₁, hq, harr⟩ := round x hI io F a w hs b (.inLoop c :: k) cs
      obtain ⟨s₁, io₁, F₁, hq, hs₁⟩ := hq
      cases e with
      | normal =>
        obtain ⟨y, hI₁, hlt, hty, hby⟩ := hq
        obtain ⟨e₂, a₂, w₂, hq₂, harr₂⟩ := ih (mu y) (hn ▸ hlt) y io₁ F₁ a₁ w₁ rfl hI₁ (hs₁.weaken (lookT_of hty) (lookB_of hby))
        exact ⟨e₂, a₂, w₂, hq₂, .of_steps (Steps.trans harr (.one step_inLoop)) harr₂⟩
      | exit id => exact ⟨_, a₁, w₁, ⟨s₁, io₁, F₁, hq, hs₁⟩, .pass (x := .inLoop c) rfl (fun _ _ => .inl (by simp)) harr⟩
      | goto l => exact ⟨_, a₁, w₁, ⟨s₁, io₁, F₁, hq, hs₁⟩, .pass (x := .inLoop c) rfl (fun _ _ => .inl (by simp)) harr⟩
      | ret => exact ⟨_, a₁, w₁, ⟨s₁, io₁, F₁, hq, hs₁⟩, .pass (x := .inLoop c) rfl (fun _ _ => .inl (by simp)) harr⟩
      | panic ch => exact ⟨_, a₁, w₁, ⟨s₁, io₁, F₁, hq, hs₁⟩, .pass (x := .inLoop c) rfl (fun _ _ => .inl (by simp)) harr⟩
      | outgrown => exact ⟨_, a₁, w₁, ⟨s₁, io₁, F₁, hq, hs₁⟩, .pass (x := .inLoop c) rfl (fun _ _ => .inl (by simp)) harr⟩
  obtain ⟨e, a', w', hq, harr⟩ := key _ x0 io F a w rfl h0 (hs.weaken (lookT_of ht) (lookB_of hb))
  exact ⟨e, a', w', hq, .of_steps (.one step_loop) harr⟩
end Go.Ab
