/-
  More rules for stepping: lists of limbs in memory of the call's own. Conditions: as each says.
-/
import Derived.Test.YtcblkjmnigbiiaaDoorAbsM
set_option autoImplicit false
set_option linter.unusedVariables false
set_option linter.unusedSectionVars false
namespace Go.Ab
open Go.RowKit

theorem wrap_u8' (e : Int) : IntKind.wrap .u8 e = e % 256 := by
  unfold IntKind.wrap; simp [IntKind.bits, IntKind.signed]
theorem iv {k : IntKind} {e e' : Int} (h : e = e') : V.d (D.int k e) = V.d (D.int k e') := by rw [h]
theorem tt_in {p : Prop} (h : p) : true = true → p := fun _ => h
theorem ff_in {p : Prop} (h : p) : false = false → p := fun _ => h

theorem fz1 (l : List Nat) : D.sl l.length ((l.map u32).take (l.length * 1)) = u32s l := by
  rw [Nat.mul_one, List.take_of_length_le (by simp), u32s]

theorem frz1 (l : List Nat) : [D.sl l.length ((l.map u32).take (l.length * 1))] = [u32s l] := by rw [fz1]
theorem frz10 (l : List Nat) (x : D) : [D.sl l.length ((l.map u32).take (l.length * 1)), x] = [u32s l, x] := by rw [fz1]
theorem frz01 (l : List Nat) (x : D) : [x, D.sl l.length ((l.map u32).take (l.length * 1))] = [x, u32s l] := by rw [fz1]
theorem frz11 (l : List Nat) (m : List Nat) : [D.sl l.length ((l.map u32).take (l.length * 1)), D.sl m.length ((m.map u32).take (m.length * 1))] = [u32s l, u32s m] := by rw [fz1, fz1]

theorem awp_loop1 {α : Type} {X : Ctx} {c : Code} {Q : Exit → St → Prop} {s : St} (st : α → List (Nat × V) × List (Nat × Blk)) (I : α → Prop) (mu : α → Nat) (x0 : α) (h0 : I x0) (ht : AllT s (st x0).1) (hb : AllB s (st x0).2)
    (round : ∀ x, I x → awp X c (andThen (fun s' => ∃ y, I y ∧ mu y < mu x ∧ AllT s' (st y).1 ∧ AllB s' (st y).2) Q) (St.of (st x).1 (st x).2)) : awp X (.loop c) Q s := awp_loopS st I mu x0 h0 ht hb round
theorem awp_loop2 {α β : Type} {X : Ctx} {c : Code} {Q : Exit → St → Prop} {s : St} (st : α → β → List (Nat × V) × List (Nat × Blk)) (I : α → β → Prop) (mu : α → β → Nat) (x0 : α) (y0 : β) (h0 : I x0 y0) (ht : AllT s (st x0 y0).1) (hb : AllB s (st x0 y0).2)
    (round : ∀ x y, I x y → awp X c (andThen (fun s' => ∃ x' y', I x' y' ∧ mu x' y' < mu x y ∧ AllT s' (st x' y').1 ∧ AllB s' (st x' y').2) Q) (St.of (st x y).1 (st x y).2)) : awp X (.loop c) Q s :=
  awp_loopS (fun z : α × β => st z.1 z.2) (fun z => I z.1 z.2) (fun z => mu z.1 z.2) (x0, y0) h0 ht hb fun z h => awp_mono (fun e s' h' => by
    revert h'
    cases e <;> first | exact id | exact fun ⟨x', y', h'⟩ => ⟨(x', y'), h'⟩) (round z.1 z.2 h)
theorem awp_loop3 {α β γ : Type} {X : Ctx} {c : Code} {Q : Exit → St → Prop} {s : St} (st : α → β → γ → List (Nat × V) × List (Nat × Blk)) (I : α → β → γ → Prop) (mu : α → β → γ → Nat) (x0 : α) (y0 : β) (z0 : γ) (h0 : I x0 y0 z0) (ht : AllT s (st x0 y0 z0).1) (hb : AllB s (st x0 y0 z0).2)
    (round : ∀ x y z, I x y z → awp X c (andThen (fun s' => ∃ x' y' z', I x' y' z' ∧ mu x' y' z' < mu x y z ∧ AllT s' (st x' y' z').1 ∧ AllB s' (st x' y' z').2) Q) (St.of (st x y z).1 (st x y z).2)) : awp X (.loop c) Q s :=
  awp_loopS (fun v : α × β × γ => st v.1 v.2.1 v.2.2) (fun v => I v.1 v.2.1 v.2.2) (fun v => mu v.1 v.2.1 v.2.2) (x0, y0, z0) h0 ht hb fun v h => awp_mono (fun e s' h' => by
    revert h'
    cases e <;> first | exact id | exact fun ⟨x', y', z', h'⟩ => ⟨(x', y', z'), h'⟩) (round v.1 v.2.1 v.2.2 h)

/-- The nil slice taken for an empty one. -/
theorem awp_nils {X : Ctx} {c : Code} {Q : Exit → St → Prop} {s : St} (t : Nat) (ht : s.tmps t = .d .nils) (h : awp X c Q (s.put (some t) (.d (.sl 0 [])))) : awp X c Q s := fun io F a w hs => h io F a w (by
  have hv := hs.tm t
  rw [ht] at hv
  simp only [VR, DR] at hv
  refine ⟨hs.kept, fun u => ?_, hs.nt, hs.df, hs.bl, hs.inj, hs.ff, hs.f0⟩
  simp only [St.put]
  cases hb : Nat.beq u t with
  | true =>
    have := Nat.eq_of_beq_eq_true hb
    subst this
    simp only [cond_true, VR, DR]
    exact .inl ⟨hv, by simp⟩
  | false => simpa using hs.tm u)

theorem awpL_slots {X : Ctx} {all : Array Oper} {l : List Oper} {Q : Exit → St → Prop} {s : St} (ts : List (Nat × V)) (bs : List (Nat × Blk)) (ht : AllT s ts) (hb : AllB s bs) (h : awpL X all l Q (St.of ts bs)) : awpL X all l Q s :=
  fun io F a w hs => h io F a w (hs.weaken (lookT_of ht) (lookB_of hb))

section
variable {X : Ctx} {T : TypeId → Option TyD} {all : Array Oper} {Q : Exit → St → Prop} {s : St} {o : Oper} {rest : List Oper} {dst : Option Tmp} {ty : TypeId} {pos : String} {after : Array Edge} {g : Option (Nat × Bool)}

theorem awpL_not {uo : UnOp} {bt : TypeId} {bx : Operand} (hT : TabOk X.P T) {C : Prop} {b : Bool} {s1 : St} {d : Option Tmp} (h : evalS T X.N all s ⟨dst, .unOp uo bt bx, ty, pos, after, g⟩ = some (C, s1.put d (.d (.bool !b)))) (hC : C) (k1 : b = false → awpL X all rest Q (s1.put d (.d (.bool true)))) (k2 : b = true → awpL X all rest Q (s1.put d (.d (.bool false)))) : awpL X all (⟨dst, .unOp uo bt bx, ty, pos, after, g⟩ :: rest) Q s := by
  cases b
  · exact awpL_step hT h hC (k1 rfl)
  · exact awpL_step hT h hC (k2 rfl)

/-- One limb is appended to a list of the call's own. -/
theorem awpL_app32 {c : Call} (hT : TabOk X.P T) {l : List Nat} {k : Nat} {e : TypeId} {x : Int} {v : Nat} {s1 : St} {d : Option Tmp}
    (h : evalS T X.N all s ⟨dst, .call c, ty, pos, after, g⟩ = some (l.length * 1 = (l.map u32).length ∧ 1 * 1 = [D.int .u32 x].length ∧ l.length + 1 ≤ maxLen ∧ (l.length + 1) * 4 ≤ 140737488355328, (s1.new k (.data e (l.map u32 ++ [D.int .u32 x]))).put d (.own k (l.length + 1) e 1)))
    (hx : 0 ≤ x) (hl : l.length < 10000000000000) (hv : x.toNat = v) (K : awpL X all rest Q ((s1.new k (.data e ((l ++ [v]).map u32))).put d (.own k (l ++ [v]).length e 1))) : awpL X all (⟨dst, .call c, ty, pos, after, g⟩ :: rest) Q s := by
  subst hv
  refine awpL_step hT h ⟨by simp, rfl, by simp [maxLen]; omega, by omega⟩ ?_
  have e1 : (l ++ [x.toNat]).map u32 = l.map u32 ++ [D.int .u32 x] := by
    simp [u32, Int.toNat_of_nonneg hx]
  rw [e1] at K
  simpa using K

/-- A list of limbs is copied. -/
theorem awpL_app0 {c : Call} (hT : TabOk X.P T) {l : List Nat} {k : Nat} {e : TypeId} {s1 : St} {d : Option Tmp}
    (h : evalS T X.N all s ⟨dst, .call c, ty, pos, after, g⟩ = some (l.length * 1 = (l.map u32).length ∧ l.length ≤ maxLen ∧ l.length * 4 ≤ 140737488355328, (s1.new k (.data e (l.map u32))).put d (.own k l.length e 1)))
    (hl : l.length < 10000000000000) (K : awpL X all rest Q ((s1.new k (.data e (l.map u32))).put d (.own k l.length e 1))) : awpL X all (⟨dst, .call c, ty, pos, after, g⟩ :: rest) Q s :=
  awpL_step hT h ⟨by simp, by simp [maxLen]; omega, by omega⟩ K

theorem fdiv_pow {a c : Int} {j : Nat} (hc : (2 : Int) ^ j = c) (h0 : 0 ≤ c) : a.fdiv (2 ^ j) = a / c := by
  rw [hc, Int.fdiv_eq_ediv_of_nonneg _ h0]
theorem awpL_shr32 {bt bu : TypeId} {bx by' : Operand} (hT : TabOk X.P T) {C : Prop} {kd : IntKind} {a : Int} {s1 : St} {d : Option Tmp} (h : evalS T X.N all s ⟨dst, .binOp .shr bt bx by' bu, ty, pos, after, g⟩ = some (C, s1.put d (.d (.int kd (a.fdiv (2 ^ 32)))))) (hC : C) (K : awpL X all rest Q (s1.put d (.d (.int kd (a / 4294967296))))) : awpL X all (⟨dst, .binOp .shr bt bx by' bu, ty, pos, after, g⟩ :: rest) Q s := by
  have e : a.fdiv (2 ^ 32) = a / 4294967296 := fdiv_pow rfl (by decide)
  rw [← e] at K
  exact awpL_step hT h hC K

theorem awpL_quo {bt bu : TypeId} {bx by' : Operand} (hT : TabOk X.P T) {C : Prop} {kd : IntKind} {a b e' : Int} {s1 : St} {d : Option Tmp} (h : evalS T X.N all s ⟨dst, .binOp .quo bt bx by' bu, ty, pos, after, g⟩ = some (C, s1.put d (.d (.int kd (kd.wrap (a.tdiv b)))))) (hC : C) (ha : 0 ≤ a) (he : kd.wrap (a / b) = e') (K : awpL X all rest Q (s1.put d (.d (.int kd e')))) : awpL X all (⟨dst, .binOp .quo bt bx by' bu, ty, pos, after, g⟩ :: rest) Q s := by
  subst he
  rw [← Int.tdiv_eq_ediv_of_nonneg ha] at K
  exact awpL_step hT h hC K
theorem awpL_rem {bt bu : TypeId} {bx by' : Operand} (hT : TabOk X.P T) {C : Prop} {kd : IntKind} {a b : Int} {s1 : St} {d : Option Tmp} (h : evalS T X.N all s ⟨dst, .binOp .rem bt bx by' bu, ty, pos, after, g⟩ = some (C, s1.put d (.d (.int kd (a.tmod b))))) (hC : C) (ha : 0 ≤ a) (K : awpL X all rest Q (s1.put d (.d (.int kd (a % b))))) : awpL X all (⟨dst, .binOp .rem bt bx by' bu, ty, pos, after, g⟩ :: rest) Q s := by
  rw [← Int.tmod_eq_emod_of_nonneg ha] at K
  exact awpL_step hT h hC K
theorem argsD_frz {c : Call} {d : Option Tmp} (k : Nat) {ety : TypeId} {cells : List D} (hA : ∀ b, ¬ X.A b) (hk : s.blk k = some (.data ety cells)) (hop : o.op = .call c) (hg : gd all (s.frz k cells) o = some true) (hdst : o.dst = d) (hd : dstOk X.N d = true) {f : FuncId} {caps : List V} (hc : calleeOf (s.frz k cells) c = some (f, caps)) {ds ds' : List D} (ha : argsD (c.args.toList.map (s.frz k cells).opd ++ caps) = some ds) (he : ds = ds') {r : D} (hr : Ret X.P f ds' (· = r)) (K : awpL X all rest Q ((s.frz k cells).put d (.d r))) : awpL X all (o :: rest) Q s := by
  subst he
  exact awpL_freeze hA k hk (awpL_callE hop hg hdst hd hc ha hr K)

theorem splice_u32 (l : List Nat) (i v : Nat) (h : i < l.length) : splice (l.map u32) i [u32 v] = (l.set i v).map u32 := by
  unfold splice
  rw [List.set_eq_take_append_cons_drop, if_pos h]
  simp
/-- A limb is written. -/
theorem awpL_st32 {bt : TypeId} {bx by' : Operand} (hT : TabOk X.P T) {l : List Nat} {i j k : Nat} {e : TypeId} {x : Int} {v : Nat} {s1 : St}
    (h : evalS T X.N all s ⟨none, .store bt bx by', ty, pos, after, g⟩ = some (i + 1 ≤ (l.map u32).length ∧ [D.int .u32 x].length = 1, s1.withBlk k (.data e (splice (l.map u32) i [D.int .u32 x]))))
    (hi : i = j) (hj : j < l.length) (hx : 0 ≤ x) (hv : x.toNat = v) (K : awpL X all rest Q (s1.withBlk k (.data e ((l.set j v).map u32)))) : awpL X all (⟨none, .store bt bx by', ty, pos, after, g⟩ :: rest) Q s := by
  subst hi hv
  refine awpL_step hT h ⟨by simp; omega, rfl⟩ ?_
  have : D.int .u32 x = u32 x.toNat := by simp [u32, Int.toNat_of_nonneg hx]
  rw [this, splice_u32 _ _ _ hj]
  exact K

/-- New limbs. -/
theorem awpL_mk32 {bt : TypeId} {bx by' : Operand} (hT : TabOk X.P T) {n k : Nat} {a : Int} {e : TypeId} {s1 : St} {d : Option Tmp}
    (h : evalS T X.N all s ⟨dst, .makeSlice bt bx by', ty, pos, after, g⟩ = some (0 ≤ a ∧ a ≤ a ∧ a ≤ (maxLen : Nat) ∧ a * (4 : Nat) ≤ 140737488355328, (s1.new k (.data e (List.replicate a.toNat [D.int .u32 0]).flatten)).put d (.own k a.toNat e 1)))
    (h0 : 0 ≤ a) (h1 : a < 10000000000000) (hn : a.toNat = n) (K : awpL X all rest Q ((s1.new k (.data e ((List.replicate n 0).map u32))).put d (.own k (List.replicate n 0).length e 1))) : awpL X all (⟨dst, .makeSlice bt bx by', ty, pos, after, g⟩ :: rest) Q s := by
  subst hn
  refine awpL_step hT h ⟨h0, Int.le_refl _, by simp [maxLen]; omega, by omega⟩ ?_
  have : (List.replicate a.toNat [D.int .u32 0]).flatten = (List.replicate a.toNat 0).map u32 := by
    generalize a.toNat = m
    induction m with
    | zero => rfl
    | succ m ih => rw [List.replicate_succ, List.flatten_cons, ih, List.replicate_succ, List.map_cons]; rfl
  rw [this]
  simpa using K
theorem isMk {bt : TypeId} {bx by' : Operand} (h : awpL X all (⟨dst, .makeSlice bt bx by', ty, pos, after, g⟩ :: rest) Q s) : awpL X all (⟨dst, .makeSlice bt bx by', ty, pos, after, g⟩ :: rest) Q s := h
theorem isStore {bt : TypeId} {bx by' : Operand} (h : awpL X all (⟨none, .store bt bx by', ty, pos, after, g⟩ :: rest) Q s) : awpL X all (⟨none, .store bt bx by', ty, pos, after, g⟩ :: rest) Q s := h
theorem isCall {c : Call} (h : awpL X all (⟨dst, .call c, ty, pos, after, g⟩ :: rest) Q s) : awpL X all (⟨dst, .call c, ty, pos, after, g⟩ :: rest) Q s := h
end
end Go.Ab
