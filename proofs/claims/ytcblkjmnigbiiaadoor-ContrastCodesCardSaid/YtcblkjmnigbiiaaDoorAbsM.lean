/-
  Rules for stepping; integers; encodings of lists of limbs. Conditions: as each says.
-/
import Derived.Test.YtcblkjmnigbiiaaDoorAbsL
set_option autoImplicit false
set_option linter.unusedVariables false
set_option linter.unusedSectionVars false
namespace Go.Ab
open Go.RowKit

section
variable {X : Ctx} {T : TypeId → Option TyD} {all : Array Oper} {Q : Exit → St → Prop} {s : St} {o : Oper} {rest : List Oper}

/-- A test: both ways. -/
theorem awpL_bool (hT : TabOk X.P T) {C : Prop} {b : Bool} {s1 : St} {d : Option Tmp} (h : evalS T X.N all s o = some (C, s1.put d (.d (.bool b)))) (hC : C) (k1 : b = true → awpL X all rest Q (s1.put d (.d (.bool true)))) (k2 : b = false → awpL X all rest Q (s1.put d (.d (.bool false)))) : awpL X all (o :: rest) Q s := by
  cases b
  · exact awpL_step hT h hC (k2 rfl)
  · exact awpL_step hT h hC (k1 rfl)

/-- A value, in another form. -/
theorem awpL_to (hT : TabOk X.P T) {C : Prop} {y y' : V} {s1 : St} {d : Option Tmp} (h : evalS T X.N all s o = some (C, s1.put d y)) (hC : C) (hy : y = y') (k : awpL X all rest Q (s1.put d y')) : awpL X all (o :: rest) Q s := by
  subst hy; exact awpL_step hT h hC k

theorem awpL_wrap {dst : Option Tmp} {bop : BinOp} {bt bu ty : TypeId} {bx by' : Operand} {pos : String} {after : Array Edge} {g : Option (Nat × Bool)} (hT : TabOk X.P T) {C : Prop} {kd : IntKind} {e e' : Int} {s1 : St} {d : Option Tmp} (h : evalS T X.N all s ⟨dst, .binOp bop bt bx by' bu, ty, pos, after, g⟩ = some (C, s1.put d (.d (.int kd (kd.wrap e))))) (hC : C) (hy : kd.wrap e = e') (k : awpL X all rest Q (s1.put d (.d (.int kd e')))) : awpL X all (⟨dst, .binOp bop bt bx by' bu, ty, pos, after, g⟩ :: rest) Q s := by
  subst hy; exact awpL_step hT h hC k
theorem awpL_conv {dst : Option Tmp} {bt bu ty : TypeId} {bx : Operand} {pos : String} {after : Array Edge} {g : Option (Nat × Bool)} (hT : TabOk X.P T) {C : Prop} {kd : IntKind} {e e' : Int} {s1 : St} {d : Option Tmp} (h : evalS T X.N all s ⟨dst, .convert bt bu bx, ty, pos, after, g⟩ = some (C, s1.put d (.d (.int kd (kd.wrap e))))) (hC : C) (hy : kd.wrap e = e') (k : awpL X all rest Q (s1.put d (.d (.int kd e')))) : awpL X all (⟨dst, .convert bt bu bx, ty, pos, after, g⟩ :: rest) Q s := by
  subst hy; exact awpL_step hT h hC k
theorem awpL_unwrap {dst : Option Tmp} {uo : UnOp} {bt ty : TypeId} {bx : Operand} {pos : String} {after : Array Edge} {g : Option (Nat × Bool)} (hT : TabOk X.P T) {C : Prop} {kd : IntKind} {e e' : Int} {s1 : St} {d : Option Tmp} (h : evalS T X.N all s ⟨dst, .unOp uo bt bx, ty, pos, after, g⟩ = some (C, s1.put d (.d (.int kd (kd.wrap e))))) (hC : C) (hy : kd.wrap e = e') (k : awpL X all rest Q (s1.put d (.d (.int kd e')))) : awpL X all (⟨dst, .unOp uo bt bx, ty, pos, after, g⟩ :: rest) Q s := by
  subst hy; exact awpL_step hT h hC k

/-- A comparison: both ways. -/
theorem awpL_dec {dst : Option Tmp} {bop : BinOp} {bt bu ty : TypeId} {bx by' : Operand} {pos : String} {after : Array Edge} {g : Option (Nat × Bool)} (hT : TabOk X.P T) {C : Prop} {p : Prop} [Decidable p] {s1 : St} {d : Option Tmp} (h : evalS T X.N all s ⟨dst, .binOp bop bt bx by' bu, ty, pos, after, g⟩ = some (C, s1.put d (.d (.bool (decide p))))) (hC : C) (k1 : p → awpL X all rest Q (s1.put d (.d (.bool true)))) (k2 : ¬ p → awpL X all rest Q (s1.put d (.d (.bool false)))) : awpL X all (⟨dst, .binOp bop bt bx by' bu, ty, pos, after, g⟩ :: rest) Q s :=
  awpL_bool hT h hC (fun e => k1 (of_decide_eq_true e)) (fun e => k2 (of_decide_eq_false e))
theorem awpL_ndec {dst : Option Tmp} {bop : BinOp} {bt bu ty : TypeId} {bx by' : Operand} {pos : String} {after : Array Edge} {g : Option (Nat × Bool)} (hT : TabOk X.P T) {C : Prop} {p : Prop} [Decidable p] {s1 : St} {d : Option Tmp} (h : evalS T X.N all s ⟨dst, .binOp bop bt bx by' bu, ty, pos, after, g⟩ = some (C, s1.put d (.d (.bool (!decide p))))) (hC : C) (k1 : ¬ p → awpL X all rest Q (s1.put d (.d (.bool true)))) (k2 : p → awpL X all rest Q (s1.put d (.d (.bool false)))) : awpL X all (⟨dst, .binOp bop bt bx by' bu, ty, pos, after, g⟩ :: rest) Q s :=
  awpL_bool hT h hC (fun e => k1 (of_decide_eq_false (by simpa using e))) (fun e => k2 (of_decide_eq_true (by simpa using e)))

theorem awpL_then {K : St → Prop} (h : K s) : awpL X all [] (andThen K Q) s := awpL_nil h
theorem awpL_in {id : Nat} (h : Q .normal s) : awpL X all [] (inBlock id Q) s := awpL_nil h

/-! Which operation stands next. -/
theorem isBin {X : Ctx} {all : Array Oper} {Q : Exit → St → Prop} {s : St} {rest : List Oper} {dst : Option Tmp} {ty : TypeId} {pos : String} {after : Array Edge} {g : Option (Nat × Bool)} {bop : BinOp} {bt bu : TypeId} {bx by1 : Operand} (h : awpL X all (⟨dst, .binOp bop bt bx by1 bu, ty, pos, after, g⟩ :: rest) Q s) : awpL X all (⟨dst, .binOp bop bt bx by1 bu, ty, pos, after, g⟩ :: rest) Q s := h
theorem isConv {X : Ctx} {all : Array Oper} {Q : Exit → St → Prop} {s : St} {rest : List Oper} {dst : Option Tmp} {ty : TypeId} {pos : String} {after : Array Edge} {g : Option (Nat × Bool)} {bt bu : TypeId} {bx : Operand} (h : awpL X all (⟨dst, .convert bt bu bx, ty, pos, after, g⟩ :: rest) Q s) : awpL X all (⟨dst, .convert bt bu bx, ty, pos, after, g⟩ :: rest) Q s := h
theorem isUn {X : Ctx} {all : Array Oper} {Q : Exit → St → Prop} {s : St} {rest : List Oper} {dst : Option Tmp} {ty : TypeId} {pos : String} {after : Array Edge} {g : Option (Nat × Bool)} {uo : UnOp} {bt : TypeId} {bx : Operand} (h : awpL X all (⟨dst, .unOp uo bt bx, ty, pos, after, g⟩ :: rest) Q s) : awpL X all (⟨dst, .unOp uo bt bx, ty, pos, after, g⟩ :: rest) Q s := h
theorem isLoad {X : Ctx} {all : Array Oper} {Q : Exit → St → Prop} {s : St} {rest : List Oper} {dst : Option Tmp} {ty : TypeId} {pos : String} {after : Array Edge} {g : Option (Nat × Bool)} {bt : TypeId} {bx : Operand} (h : awpL X all (⟨dst, .load bt bx, ty, pos, after, g⟩ :: rest) Q s) : awpL X all (⟨dst, .load bt bx, ty, pos, after, g⟩ :: rest) Q s := h
theorem isCallF {X : Ctx} {all : Array Oper} {Q : Exit → St → Prop} {s : St} {rest : List Oper} {dst : Option Tmp} {ty : TypeId} {pos : String} {after : Array Edge} {g : Option (Nat × Bool)} {y : Operand} {args : Array Operand} {tys : Array TypeId} (h : awpL X all (⟨dst, .call ⟨.value y, args, tys⟩, ty, pos, after, g⟩ :: rest) Q s) : awpL X all (⟨dst, .call ⟨.value y, args, tys⟩, ty, pos, after, g⟩ :: rest) Q s := h
theorem isCond {X : Ctx} {Q : Exit → St → Prop} {s : St} {c : Operand} {x y : Code} (h : awp X (.cond c x y) Q s) : awp X (.cond c x y) Q s := h
theorem isOps {X : Ctx} {all : Array Oper} {Q : Exit → St → Prop} {s : St} {o : Oper} {rest : List Oper} (h : awpL X all (o :: rest) Q s) : awpL X all (o :: rest) Q s := h

/-- A call whose result is known. -/
theorem awpL_callE {c : Call} {d : Option Tmp} (hop : o.op = .call c) (hg : gd all s o = some true) (hdst : o.dst = d) (hd : dstOk X.N d = true) {f : FuncId} {caps : List V} (hc : calleeOf s c = some (f, caps)) {ds : List D} (ha : argsD (c.args.toList.map s.opd ++ caps) = some ds) {r : D} (hr : Ret X.P f ds (· = r)) (k : awpL X all rest Q (s.put d (.d r))) : awpL X all (o :: rest) Q s :=
  awpL_call hop hg hdst hd hc ha hr fun _ e => by subst e; exact k
end

theorem Mono1.to {P : Program} {T : TypeId → Option TyD} {all : Array Oper} {s : St} {o : Oper} {C : Prop} {x x' : V} (h : gd all s o = some true) (hq : evalQF T s o.op = some (C, x)) (hC : C) (e : x = x') : Mono1 P T all s o x' := by
  subst e; exact .quiet h hq hC
theorem Mono1.wrap {P : Program} {T : TypeId → Option TyD} {all : Array Oper} {s : St} {o : Oper} {C : Prop} {k : IntKind} {e e' : Int} (h : gd all s o = some true) (hq : evalQF T s o.op = some (C, .d (.int k (k.wrap e)))) (hC : C) (he : k.wrap e = e') : Mono1 P T all s o (.d (.int k e')) := by
  subst he; exact .quiet h hq hC

theorem wrap_u8 {e : Int} (h : 0 ≤ e ∧ e < 256) : IntKind.wrap .u8 e = e := by
  unfold IntKind.wrap; simp [IntKind.bits, IntKind.signed]; omega
theorem wrap_u32 {e : Int} (h : 0 ≤ e ∧ e < 4294967296) : IntKind.wrap .u32 e = e := by
  unfold IntKind.wrap; simp [IntKind.bits, IntKind.signed]; omega
theorem wrap_u64 {e : Int} (h : 0 ≤ e ∧ e < 18446744073709551616) : IntKind.wrap .u64 e = e := by
  unfold IntKind.wrap; simp [IntKind.bits, IntKind.signed]; omega
theorem wrap_i64 {e : Int} (h : -9223372036854775808 ≤ e ∧ e < 9223372036854775808) : IntKind.wrap .i64 e = e := IntWalk.i64_in e (by omega)
theorem wrap_u32' (e : Int) : IntKind.wrap .u32 e = e % 4294967296 := by
  unfold IntKind.wrap; simp [IntKind.bits, IntKind.signed]
theorem wrap_u64' (e : Int) : IntKind.wrap .u64 e = e % 18446744073709551616 := by
  unfold IntKind.wrap; simp [IntKind.bits, IntKind.signed]

/-- Limbs. -/
@[reducible] def u32 (n : Nat) : D := .int .u32 (n : Int)
@[reducible] def u32s (l : List Nat) : D := .sl l.length (l.map u32)

theorem getD_map {α : Type} (f : α → D) (l : List α) (i : Nat) (z : α) (h : i < l.length) : (l.map f).getD i .undef = f (l.getD i z) := by
  simp [List.getD, h]
theorem getD_map2 {α : Type} (f : α → D) (l : List α) (i j : Nat) (z : α) (hi : i = j) (h : j < l.length) : (l.map f).getD i .undef = f (l.getD j z) := by
  subst hi; exact getD_map f l i z h

/-! ## A block is given away -/

mutual
def V.frz (k : Nat) (cells : List D) : V → V
  | .own k' n ty sz => bif Nat.beq k' k then .d (.sl n (cells.take (n * sz))) else .own k' n ty sz
  | .ptr k' o => bif Nat.beq k' k then .iptr cells o else .ptr k' o
  | .agg cs => .agg (V.frzL k cells cs)
  | .fn f cs => .fn f (V.frzL k cells cs)
  | x => x
def V.frzL (k : Nat) (cells : List D) : List V → List V
  | [] => []
  | x :: xs => V.frz k cells x :: V.frzL k cells xs
end

def Blk.frz (k : Nat) (cells : List D) : Blk → Blk
  | .data ty cs => .data ty cs
  | .box ty cs => .box ty (V.frzL k cells cs)
def St.frz (s : St) (k : Nat) (cells : List D) : St :=
  { tmps := fun t => (s.tmps t).frz k cells, blk := fun j => bif Nat.beq j k then none else match s.blk j with | some b => some (b.frz k cells) | none => none }

section
variable {io : Nat → Option Nat} {F F' : Nat → Prop} {w : World} {k : Nat} {cells : List D}
  (hF : ∀ b, F b → F' b) (hk : io k = none ∧ cells = [] ∨ ∃ b arr ty vals, io k = some b ∧ F' b ∧ w.heap[b]? = some (.cells arr ty (0, 0)) ∧ RowAt arr 0 vals ∧ DRL F' w cells vals)
include hF hk
mutual
theorem VR.frz : ∀ (x : V) (v : Value), VR io F w x v → VR io F' w (x.frz k cells) v
  | .d x, v, h => by simp only [V.frz, VR] at h ⊢; exact DR.mono hF (fun _ _ => rfl) _ _ h
  | .own k' n ty sz, v, h => by
      simp only [V.frz]
      cases hb : Nat.beq k' k with
      | true =>
        have := Nat.eq_of_beq_eq_true hb
        subst this
        simp only [cond_true, VR, DR] at h ⊢
        rcases hk with ⟨h0, rfl⟩ | ⟨b, arr, ty', vals, h1, h2, h3, h4, h5⟩
        · rcases h with ⟨_, rfl, rfl⟩ | ⟨b, _, _, h1, _⟩
          · left; simp
          · rw [h0] at h1; cases h1
        · rcases h with ⟨h0, _⟩ | ⟨b', cap, arr', g1, rfl, g2, _, g3, _⟩
          · rw [h0] at h1; cases h1
          · rw [h1] at g1; cases g1
            exact .inr ⟨b, 0, cap, arr, ty', (0, 0), vals.take (n * sz), rfl, g2, h2, h3, h4.take _, DRL.take _ h5⟩
      | false => simp only [cond_false, VR] at h ⊢; exact h
  | .ptr k' o, v, h => by
      simp only [V.frz]
      cases hb : Nat.beq k' k with
      | true =>
        have := Nat.eq_of_beq_eq_true hb
        subst this
        simp only [cond_true, VR] at h ⊢
        obtain ⟨b, h1, rfl⟩ := h
        rcases hk with ⟨h0, _⟩ | ⟨b', arr, ty', vals, g1, g2, g3, g4, g5⟩
        · rw [h0] at h1; cases h1
        · rw [h1] at g1; cases g1
          exact ⟨b, 0, arr, ty', (0, 0), vals, by simp, g2, g3, g4, g5⟩
      | false => simp only [cond_false, VR] at h ⊢; exact h
  | .iptr cs o, v, h => by
      simp only [V.frz, VR] at h ⊢
      obtain ⟨b, off, arr, ty, fz, vals, e, hb, hh, hr, h⟩ := h
      exact ⟨b, off, arr, ty, fz, vals, e, hF b hb, hh, hr, DRL.mono hF (fun _ _ => rfl) _ _ h⟩
  | .agg cs, v, h => by simp only [V.frz, VR] at h ⊢; obtain ⟨a, e, h⟩ := h; exact ⟨a, e, VRL.frz cs _ h⟩
  | .fn f cs, v, h => by simp only [V.frz, VR] at h ⊢; obtain ⟨a, e, h⟩ := h; exact ⟨a, e, VRL.frz cs _ h⟩
theorem VRL.frz : ∀ (xs : List V) (vs : List Value), VRL io F w xs vs → VRL io F' w (V.frzL k cells xs) vs
  | [], _, h => by simp only [V.frzL, VRL] at h ⊢; exact h
  | x :: xs, _, h => by
      simp only [V.frzL, VRL] at h ⊢
      obtain ⟨v, rest, e, h0, h1, h2⟩ := h
      exact ⟨v, rest, e, h0, VR.frz x v h1, VRL.frz xs rest h2⟩
end
end

theorem SR.frz {X : Ctx} {io : Nat → Option Nat} {F : Nat → Prop} {s : St} {a : Act} {w : World} (hs : SR X io F s a w) (hA : ∀ b, ¬ X.A b) {k : Nat} {ty : TypeId} {cells : List D} (hk : s.blk k = some (.data ty cells)) : ∃ F', SR X io F' (s.frz k cells) a w := by
  have hb := hs.bl k _ hk
  simp only [BR] at hb
  have hF : ∀ b, F b → (F b ∨ io k = some b) := fun b h => .inl h
  have hkk : io k = none ∧ cells = [] ∨ ∃ b arr ty vals, io k = some b ∧ (F b ∨ io k = some b) ∧ w.heap[b]? = some (.cells arr ty (0, 0)) ∧ RowAt arr 0 vals ∧ DRL (fun b => F b ∨ io k = some b) w cells vals := by
    rcases hb with h | ⟨b, arr, vals, h1, h2, h3, h4, h5, h6⟩
    · exact .inl h
    · exact .inr ⟨b, arr, ty, vals, h1, .inr h1, h4, h5, DRL.mono hF (fun _ _ => rfl) _ _ h6⟩
  refine ⟨fun b => F b ∨ io k = some b, hs.kept, fun t => VR.frz hF hkk _ _ (hs.tm t), hs.nt, hs.df, fun j b' hj => ?_, fun j j' c h1 h2 e1 e2 => ?_, fun b h => ?_, fun b h => .inl (hs.f0 b h)⟩
  · simp only [St.frz] at hj
    cases hq : Nat.beq j k with
    | true => rw [hq] at hj; simp at hj
    | false =>
      rw [hq] at hj
      simp only [cond_false] at hj
      have hne := beq_ne hq
      split at hj
      · rename_i b0 h0
        simp only [Option.some.injEq] at hj; subst hj
        have hold := hs.bl j _ h0
        have hnk : ∀ b, io j = some b → ¬ (io k = some b) := fun b h1 h2 => hne (hs.inj j k b (by rw [h0]; simp) (by rw [hk]; simp) h1 h2)
        cases b0 with
        | data ty' cs =>
          simp only [BR, Blk.frz] at hold ⊢
          rcases hold with h | ⟨b, arr, vals, h1, h2, h3, h4, h5, h6⟩
          · exact .inl h
          · exact .inr ⟨b, arr, vals, h1, fun h => h.elim h2 (hnk b h1), h3, h4, h5, DRL.mono hF (fun _ _ => rfl) _ _ h6⟩
        | box ty' cs =>
          simp only [BR, Blk.frz] at hold ⊢
          obtain ⟨b, arr, vals, h1, h2, h3, h4, h5, h6⟩ := hold
          exact ⟨b, arr, vals, h1, fun h => h.elim h2 (hnk b h1), h3, h4, h5, VRL.frz hF hkk _ _ h6⟩
      · cases hj
  · have g : ∀ j, (s.frz k cells).blk j ≠ none → s.blk j ≠ none := fun j h e => h (by simp only [St.frz, e]; cases Nat.beq j k <;> rfl)
    exact hs.inj j j' c (g j h1) (g j' h2) e1 e2
  · rcases h with h | h
    · exact hs.ff b h
    · rcases hb with ⟨h0, _⟩ | ⟨b', arr, vals, h1, h2, h3, h4, _⟩
      · rw [h0] at h; cases h
      · rw [h] at h1; cases h1
        refine ⟨lt_of_heap h4, .inr (h3.resolve_left (hA b))⟩

theorem awp_freeze {X : Ctx} {c : Code} {Q : Exit → St → Prop} {s : St} (hA : ∀ b, ¬ X.A b) (k : Nat) {ty : TypeId} {cells : List D} (hk : s.blk k = some (.data ty cells)) (h : awp X c Q (s.frz k cells)) : awp X c Q s := fun io F a w hs => by
  obtain ⟨F', hs'⟩ := hs.frz hA hk
  exact h _ _ _ _ hs'
theorem awpL_freeze {X : Ctx} {all : Array Oper} {l : List Oper} {Q : Exit → St → Prop} {s : St} (hA : ∀ b, ¬ X.A b) (k : Nat) {ty : TypeId} {cells : List D} (hk : s.blk k = some (.data ty cells)) (h : awpL X all l Q (s.frz k cells)) : awpL X all l Q s := fun io F a w hs => by
  obtain ⟨F', hs'⟩ := hs.frz hA hk
  exact h _ _ _ _ hs'

/-- A nil slice taken for an empty block of the call's own. -/
theorem SR.adopt {X : Ctx} {io : Nat → Option Nat} {F : Nat → Prop} {s : St} {a : Act} {w : World} (hs : SR X io F s a w) (t k : Nat) (ty : TypeId) (sz : Nat) (ht : s.tmps t = .d .nils) : SR X (updio io k none) F (((s.kill k).withBlk k (.data ty [])).put (some t) (.own k 0 ty sz)) a w := by
  have h0 : SR X (updio io k none) F ((s.kill k).withBlk k (.data ty [])) a w := SR.setBlk (hs.kill k none) (by simp only [BR]; exact .inl ⟨updio_same _ _ _, by simp⟩) fun j c _ _ _ h => by rw [updio_same] at h; cases h
  have hv := hs.tm t
  rw [ht] at hv
  simp only [VR, DR] at hv
  refine ⟨h0.kept, fun u => ?_, h0.nt, h0.df, h0.bl, h0.inj, h0.ff, h0.f0⟩
  simp only [St.put]
  cases hb : Nat.beq u t with
  | true =>
    have := Nat.eq_of_beq_eq_true hb
    subst this
    simp only [cond_true, VR]
    exact .inl ⟨updio_same _ _ _, hv, by simp⟩
  | false => simpa using h0.tm u

theorem awp_adopt {X : Ctx} {c : Code} {Q : Exit → St → Prop} {s : St} (t k : Nat) (ty : TypeId) (sz : Nat) (ht : s.tmps t = .d .nils) (h : awp X c Q (((s.kill k).withBlk k (.data ty [])).put (some t) (.own k 0 ty sz))) : awp X c Q s := fun io F a w hs => h _ _ _ _ (hs.adopt t k ty sz ht)

section
variable {X : Ctx} {T : TypeId → Option TyD} {all : Array Oper} {Q : Exit → St → Prop} {s : St} {o : Oper} {rest : List Oper}
/-- A limb is read. -/
theorem awpL_ldu {dst : Option Tmp} {bt ty : TypeId} {bx : Operand} {pos : String} {after : Array Edge} {g : Option (Nat × Bool)} (hT : TabOk X.P T) {l : List Nat} {i j : Nat} {s1 : St} {d : Option Tmp} (h : evalS T X.N all s ⟨dst, .load bt bx, ty, pos, after, g⟩ = some (i < (l.map u32).length, s1.put d (.d ((l.map u32).getD i .undef)))) (hi : i = j) (hj : j < l.length) (k : awpL X all rest Q (s1.put d (.d (u32 (l.getD j 0))))) : awpL X all (⟨dst, .load bt bx, ty, pos, after, g⟩ :: rest) Q s := by
  subst hi
  exact awpL_to hT h (by simpa using hj) (congrArg V.d (getD_map u32 l i 0 hj)) k
end
theorem Mono1.ldu {P : Program} {T : TypeId → Option TyD} {all : Array Oper} {s : St} {o : Oper} {l : List Nat} {i j : Nat} (h : gd all s o = some true) (hq : evalQF T s o.op = some (i < (l.map u32).length, .d ((l.map u32).getD i .undef))) (hi : i = j) (hj : j < l.length) : Mono1 P T all s o (.d (u32 (l.getD j 0))) := by
  subst hi
  exact Mono1.to h hq (by simpa using hj) (congrArg V.d (getD_map u32 l i 0 hj))

section
variable {X : Ctx} {T : TypeId → Option TyD} {all : Array Oper} {Q : Exit → St → Prop} {s : St} {rest : List Oper} {dst : Option Tmp} {ty bt : TypeId} {bx : Operand} {lo hi mx : Option Operand} {pos : String} {after : Array Edge} {g : Option (Nat × Bool)}
theorem isSlice (h : awpL X all (⟨dst, .slice bt bx lo hi mx, ty, pos, after, g⟩ :: rest) Q s) : awpL X all (⟨dst, .slice bt bx lo hi mx, ty, pos, after, g⟩ :: rest) Q s := h
/-- Limbs at the beginning. -/
theorem awpL_sltake (hT : TabOk X.P T) {l : List Nat} {n : Nat} {h : Int} {sz : Nat} {C : Prop} {s1 : St} {d : Option Tmp} (he : evalS T X.N all s ⟨dst, .slice bt bx lo hi mx, ty, pos, after, g⟩ = some (C, s1.put d (.d (.sl h.toNat ((l.map u32).take (h.toNat * sz)))))) (hC : C) (hsz : sz = 1) (hn : h.toNat = n) (hl : n ≤ l.length) (k : awpL X all rest Q (s1.put d (.d (u32s (l.take n))))) : awpL X all (⟨dst, .slice bt bx lo hi mx, ty, pos, after, g⟩ :: rest) Q s := by
  subst hn hsz
  exact awpL_to hT he hC (by simp [u32s, List.map_take, Nat.min_eq_left hl]) k
/-- Limbs at the end. -/
theorem awpL_sldrop (hT : TabOk X.P T) {l : List Nat} {n : Nat} {h : Int} {sz : Nat} {C : Prop} {s1 : St} {d : Option Tmp} (he : evalS T X.N all s ⟨dst, .slice bt bx lo hi mx, ty, pos, after, g⟩ = some (C, s1.put d (.d (.sl ((l.length : Int) - h).toNat (((l.map u32).drop (h.toNat * sz)).take (((l.length : Int) - h).toNat * sz)))))) (hC : C) (hsz : sz = 1) (h0 : 0 ≤ h) (hn : h.toNat = n) (hl : n ≤ l.length) (k : awpL X all rest Q (s1.put d (.d (u32s (l.drop n))))) : awpL X all (⟨dst, .slice bt bx lo hi mx, ty, pos, after, g⟩ :: rest) Q s := by
  subst hn hsz
  refine awpL_to hT he hC ?_ k
  have e : ((l.length : Int) - h).toNat = l.length - h.toNat := by omega
  rw [e, Nat.mul_one, Nat.mul_one, List.take_of_length_le (by simp), u32s, List.map_drop, List.length_drop]
end
end Go.Ab
