/-
  Steps, contracts and calls of the abstract machine. Conditions: the table of types is the program's.
-/
import Derived.Test.YtcblkjmnigbiiaaDoorAbsI
set_option autoImplicit false
set_option linter.unusedSimpArgs false
set_option linter.unusedVariables false
namespace Go.Ab
open Go.RowKit

def gd (all : Array Oper) (s : St) (o : Oper) : Option Bool :=
  match o.guard with
  | none => some true
  | some (g, want) => match (all[g]?).bind (·.dst) with
    | some d => match s.tmps d with
      | .d (.bool b) => some (b == want)
      | .d (.tup _) => some false
      | _ => none
    | none => none

theorem gd_sound {X : Ctx} {io : Nat → Option Nat} {F : Nat → Prop} {s : St} {a : Act} {w : World} (hs : SR X io F s a w) {all : Array Oper} {o : Oper} {r : Bool} (h : gd all s o = some r) : Region.wanted o (yielded all a.tmps) = r := by
  unfold gd at h
  unfold Region.wanted
  split at h
  · rename_i hg
    simp only [Option.some.injEq] at h
    rw [hg, ← h]
  · rename_i g want hg
    split at h
    · rename_i d hd
      split at h
      · rename_i b hb
        simp only [Option.some.injEq] at h
        have ht := hs.tm d
        rw [hb] at ht
        simp only [VR, DR] at ht
        have hget : a.tmps[d]? = some (.bool b) := by
          rw [Array.getD_eq_getD_getElem?] at ht
          cases hq : a.tmps[d]? with
          | none => rw [hq] at ht; cases ht
          | some v => rw [hq] at ht; simp at ht; rw [ht]
        rw [hg]
        simp only [yielded, hd, Option.bind_some, hget]
        rw [← h]
        cases b <;> cases want <;> rfl
      · rename_i cs hb
        simp only [Option.some.injEq] at h
        have ht := hs.tm d
        rw [hb] at ht
        simp only [VR, DR] at ht
        obtain ⟨arr, ht, _⟩ := ht
        have hget : a.tmps[d]? = none ∨ a.tmps[d]? = some (.tuple arr) := by
          rw [Array.getD_eq_getD_getElem?] at ht
          cases hq : a.tmps[d]? with
          | none => exact .inl rfl
          | some v => rw [hq] at ht; simp at ht; rw [ht]; exact .inr rfl
        rw [hg, ← h]
        rcases hget with hget | hget <;> simp only [yielded, hd, Option.bind_some, hget] <;> rfl
      · cases h
    · cases h

def dstOk (N : Nat) : Option Tmp → Bool
  | some d => Nat.blt d N
  | none => true

theorem dstOk_sound {N : Nat} {dst : Option Tmp} (h : dstOk N dst = true) : ∀ d, dst = some d → d < N := fun d e => by
  subst e; simpa [dstOk, Nat.blt_eq] using h

/-- The same, with the value's head in the open. -/
def forceV (C : Prop) : V → Ev V
  | .d y => some (C, .d y)
  | .own k n ty sz => some (C, .own k n ty sz)
  | .ptr k o => some (C, .ptr k o)
  | .iptr cs o => some (C, .iptr cs o)
  | .agg cs => some (C, .agg cs)
  | .fn f cs => some (C, .fn f cs)
theorem forceV_eq (C : Prop) (x : V) : forceV C x = some (C, x) := by cases x <;> rfl
def evalQF (T : TypeId → Option TyD) (s : St) (op : Op) : Ev V :=
  match evalQ T s op with
  | some (C, x) => forceV C x
  | none => none
theorem evalQF_eq (T : TypeId → Option TyD) (s : St) (op : Op) : evalQF T s op = evalQ T s op := by
  unfold evalQF
  split
  · rename_i C x h; rw [forceV_eq, h]
  · rename_i h; rw [h]

/-- One operation, but for calls of functions. -/
def evalS (T : TypeId → Option TyD) (N : Nat) (all : Array Oper) (s : St) (o : Oper) : Ev St :=
  match o.dst with
  | none => match gd all s o with
    | some false => some (True, s)
    | some true => match evalQF T s o.op with
      | some (C, x) => some (C, s)
      | none => match evalE T s none o.op with
        | some (C, _, s') => some (C, s')
        | none => none
    | none => none
  | some d => bif Nat.blt d N then
    match gd all s o with
    | some false => some (True, s.put (some d) (.d (.tup [])))
    | some true => match evalQF T s o.op with
      | some (C, x) => some (C, s.put (some d) x)
      | none => match evalE T s (some d) o.op with
        | some (C, some y, s') => some (C, s'.put (some d) y)
        | some (C, none, s') => some (C, s'.put (some d) (.d .undef))
        | none => match evalA T s (some d) o.op with
          | some (C, x, s') => some (C, s'.put (some d) x)
          | none => match evalB T s o.op with
            | some x => some (True, s.put (some d) (.d x))
            | none => none
    | none => none
    else none

/-- An operation comes up: carried out, or passed over. -/
def opWp (P : Program) (all : Array Oper) (o : Oper) (a : Act) (w : World) (K : Act → World → Prop) (Q : Exit → Act → World → Prop) : Prop :=
  if Region.wanted o (yielded all a.tmps) then o.wp P a w K Q ∨ (o.asks P a w ∧ LetsOut Q) else K (a.put o.dst Go.undef) w

theorem opWp_value {P : Program} {all : Array Oper} {o : Oper} {a : Act} {w w' : World} {K : Act → World → Prop} {Q : Exit → Act → World → Prop} {v : Value} (hw : Region.wanted o (yielded all a.tmps) = true) (h : (execOp a.eval o).run P w = .ok (.value v) w') (hK : K (a.put o.dst v) w') : opWp P all o a w K Q := by
  unfold opWp; rw [if_pos hw]; left
  unfold Oper.wp; rw [h]; exact hK

theorem opWp_skip {P : Program} {all : Array Oper} {o : Oper} {a : Act} {w w' : World} {K : Act → World → Prop} {Q : Exit → Act → World → Prop} (hw : Region.wanted o (yielded all a.tmps) = true) (h : (execOp a.eval o).run P w = .ok .skip w') (hK : K (a.put o.dst Go.undef) w') : opWp P all o a w K Q := by
  unfold opWp; rw [if_pos hw]; left
  unfold Oper.wp; rw [h]; exact hK

theorem VR.gone {io : Nat → Option Nat} {F : Nat → Prop} {w : World} : VR io F w (.d (.tup [])) Go.undef := by simp only [VR, DR, DRT]; exact ⟨#[], rfl, rfl⟩
theorem VR.undef {io : Nat → Option Nat} {F : Nat → Prop} {w : World} (v : Value) : VR io F w (.d .undef) v := by simp only [VR, DR]

theorem evalS_sound {X : Ctx} {T : TypeId → Option TyD} (hT : TabOk X.P T) {io : Nat → Option Nat} {F : Nat → Prop} {s : St} {a : Act} {w : World} (hs : SR X io F s a w) {all : Array Oper} (o : Oper) {C : Prop} {s' : St} (h : evalS T X.N all s o = some (C, s')) (hC : C) {K : Act → World → Prop} {Q : Exit → Act → World → Prop}
    (hK : ∀ io' F' a' w', SR X io' F' s' a' w' → K a' w') : opWp X.P all o a w K Q := by
  unfold evalS at h
  split at h
  · rename_i hdst
    have hput : ∀ (s : St) x, s.put o.dst x = s := fun s x => by rw [hdst]; rfl
    have hdd : ∀ d, o.dst = some d → d < X.N := fun d e => by rw [hdst] at e; cases e
    split at h
    · rename_i hg
      simp only [Option.some.injEq, Prod.mk.injEq] at h; obtain ⟨rfl, rfl⟩ := h
      unfold opWp
      rw [if_neg (by rw [gd_sound hs hg]; simp)]
      have := hs.put hdd (VR.undef Go.undef)
      rw [hput] at this
      exact hK io F _ _ this
    · rename_i hg
      have hw := gd_sound hs hg
      split at h
      · rename_i C' x hq
        rw [evalQF_eq] at hq
        simp only [Option.some.injEq, Prod.mk.injEq] at h; obtain ⟨rfl, rfl⟩ := h
        obtain ⟨v, hy, hv⟩ := evalQ_sound hT hs o hq hC
        have := hs.put hdd hv
        rw [hput] at this
        exact opWp_value hw hy (hK io F _ _ this)
      · split at h
        · rename_i C' x s1 hq
          simp only [Option.some.injEq, Prod.mk.injEq] at h; obtain ⟨rfl, rfl⟩ := h
          obtain ⟨v, w', io', hr, hs', hv⟩ := evalE_sound hT hs o (by rw [hdst]; exact hq) hC
          unfold Sem.okNext at hr
          cases x with
          | none =>
            have := hs'.put hdd (VR.undef Go.undef)
            rw [hput] at this
            exact opWp_skip hw hr (hK io' F _ _ this)
          | some y =>
            have := hs'.put hdd (hv y rfl)
            rw [hput] at this
            exact opWp_value hw hr (hK io' F _ _ this)
        · cases h
    · cases h
  · rename_i d hdst
    cases hd : Nat.blt d X.N with
    | false => rw [hd] at h; cases h
    | true =>
      rw [hd] at h
      simp only [cond_true] at h
      have hdd : ∀ d', o.dst = some d' → d' < X.N := fun d' e => by rw [hdst] at e; cases e; simpa [Nat.blt_eq] using hd
      split at h
      · rename_i hg
        simp only [Option.some.injEq, Prod.mk.injEq] at h; obtain ⟨rfl, rfl⟩ := h
        unfold opWp
        rw [if_neg (by rw [gd_sound hs hg]; simp)]
        rw [← hdst] at hK
        exact hK io F _ _ (hs.put hdd VR.gone)
      · rename_i hg
        have hw := gd_sound hs hg
        split at h
        · rename_i C' x hq
          rw [evalQF_eq] at hq
          simp only [Option.some.injEq, Prod.mk.injEq] at h; obtain ⟨rfl, rfl⟩ := h
          obtain ⟨v, hy, hv⟩ := evalQ_sound hT hs o hq hC
          rw [← hdst] at hK
          exact opWp_value hw hy (hK io F _ _ (hs.put hdd hv))
        · split at h
          · rename_i C' y s1 hq
            simp only [Option.some.injEq, Prod.mk.injEq] at h; obtain ⟨rfl, rfl⟩ := h
            rw [← hdst] at hq hK
            obtain ⟨v, w', io', hr, hs', hv⟩ := evalE_sound hT hs o hq hC
            unfold Sem.okNext at hr
            exact opWp_value hw hr (hK io' F _ _ (hs'.put hdd (hv y rfl)))
          · rename_i C' s1 hq
            simp only [Option.some.injEq, Prod.mk.injEq] at h; obtain ⟨rfl, rfl⟩ := h
            rw [← hdst] at hq hK
            obtain ⟨v, w', io', hr, hs', hv⟩ := evalE_sound hT hs o hq hC
            unfold Sem.okNext at hr
            exact opWp_skip hw hr (hK io' F _ _ (hs'.put hdd (VR.undef _)))
          · split at h
            · rename_i C' x s1 hq
              simp only [Option.some.injEq, Prod.mk.injEq] at h; obtain ⟨rfl, rfl⟩ := h
              rw [← hdst] at hq hK
              obtain ⟨v, w', io', hr, hs', hv⟩ := evalA_sound hT hs o hq hC
              exact opWp_value hw hr (hK io' F _ _ (hs'.put hdd hv))
            · split at h
              · rename_i x hq
                simp only [Option.some.injEq, Prod.mk.injEq] at h; obtain ⟨rfl, rfl⟩ := h
                rw [← hdst] at hK
                obtain ⟨v, w', F', hr, hb, hF, hN, hv⟩ := evalB_sound hT hs.opd (fun b h => (hs.ff b h).1) o hq
                exact opWp_value hw hr (hK io F' _ _ ((hs.grow hb hF hN).put hdd (by simpa only [VR] using hv)))
              · cases h
      · cases h

/-! ## Contracts -/

def D.normC : D → D
  | .nils => .sl 0 []
  | x => x
def D.norm : D → D
  | .agg cs => .agg (cs.map D.normC)
  | x => D.normC x

theorem DR.normC {F : Nat → Prop} {w : World} {x : D} {v : Value} (h : DR F w x v) : DR F w x.normC v := by
  cases x <;> try exact h
  simp only [DR] at h
  subst h
  simp [D.normC, DR]

theorem DR.norm {F : Nat → Prop} {w : World} {x : D} {v : Value} (h : DR F w x v) : DR F w x.norm v := by
  cases x <;> try exact DR.normC h
  rename_i cs
  simp only [D.norm, DR] at h ⊢
  obtain ⟨arr, e, hl⟩ := h
  refine ⟨arr, e, ?_⟩
  have : ∀ (cs : List D) (vs : List Value), DRL F w cs vs → DRL F w (cs.map D.normC) vs := by
    intro cs
    induction cs with
    | nil => intro vs h; simpa using h
    | cons x xs ih =>
      intro vs h
      simp only [DRL] at h
      obtain ⟨v, rest, rfl, h0, h1, h2⟩ := h
      exact ⟨v, rest, rfl, h0, DR.normC h1, ih _ h2⟩
  exact this _ _ hl

/-- The function can be entered. -/
def Enters (P : Program) (f : FuncId) : Prop := ∃ fn, P.funcs[f]? = some fn ∧ (fn.name == "runtime.NumGoroutine") = false ∧ fn.body.isNone = false

/-- A contract of a function of data: given arguments that stand for ds, it returns what stands for some r of R, in new memory or in that of the arguments; nothing that was there turns. -/
structure Ret (P : Program) (f : FuncId) (ds : List D) (R : D → Prop) : Prop where
  enters : Enters P f
  run : ∀ (F : Nat → Prop) (w : World) (vs : Array Value), (∀ b, F b → b < w.heap.size) → DRT F w ds vs.toList →
    Calls P f vs w fun e w' => ∃ v r F', e = .returned v ∧ R r ∧ Below w.heap.size w w' ∧ (∀ b, F b → F' b) ∧ (∀ b, F' b → F b ∨ (w.heap.size ≤ b ∧ b < w'.heap.size)) ∧ DR F' w' r v

theorem Ret.mono {P : Program} {f : FuncId} {ds : List D} {R R' : D → Prop} (h : Ret P f ds R) (hr : ∀ r, R r → R' r) : Ret P f ds R' :=
  ⟨h.enters, fun F w vs hF hv => (h.run F w vs hF hv).mono fun _ _ ⟨v, r, F', e, h1, h2⟩ => ⟨v, r, F', e, hr r h1, h2⟩⟩

def V.arg : V → Option D
  | .d x => some x.norm
  | _ => none
def argsD : List V → Option (List D)
  | [] => some []
  | x :: xs => match x.arg, argsD xs with | some y, some ys => some (y :: ys) | _, _ => none

def calleeOf (s : St) (c : Call) : Option (FuncId × List V) :=
  match c.callee with
  | .value y => match s.opd y with | .fn f cs => some (f, cs) | _ => none
  | _ => none

theorem run_enter {P : Program} {f : FuncId} (he : Enters P f) (w : World) (args : Array Value) : (callFunc f args).run P w = .ok (.enter f args) w := by
  obtain ⟨fn, h1, h2, h3⟩ := he
  simp only [callFunc, Sem.run_bind, run_program, Result.andThen_ok, h1, h2, h3]
  rfl

theorem argsD_of {io : Nat → Option Nat} {F : Nat → Prop} {w : World} : ∀ {xs : List V} {ds : List D} {vs : List Value}, argsD xs = some ds → vs.length = xs.length → (∀ (i : Nat) x v, xs[i]? = some x → vs[i]? = some v → VR io F w x v) → DRT F w ds vs
  | [], ds, vs, h, hl, _ => by
    simp [argsD] at h; subst h
    simp only [DRT]; simpa using hl
  | x :: xs, ds, [], h, hl, _ => by simp at hl
  | x :: xs, ds, v :: vs, h, hl, hv => by
    simp only [argsD] at h
    split at h
    · rename_i y ys h1 h2
      simp only [Option.some.injEq] at h; subst h
      simp only [DRT]
      refine ⟨v, vs, rfl, ?_, argsD_of h2 (by simpa using hl) fun i x v h1 h2 => hv (i + 1) x v (by simpa using h1) (by simpa using h2)⟩
      have hx := hv 0 x v (by simp) (by simp)
      cases x <;> simp only [V.arg] at h1 <;> try (cases h1; done)
      simp only [Option.some.injEq] at h1; subst h1
      exact DR.norm (by simpa only [VR] using hx)
    · cases h

/-- What the machine does at a call of a function. -/
theorem run_call {X : Ctx} {io : Nat → Option Nat} {F : Nat → Prop} {s : St} {a : Act} {w : World} (ho : ∀ y, VR io F w (s.opd y) (a.eval y)) {o : Oper} {c : Call} (hop : o.op = .call c) {f : FuncId} {caps : List V} (hc : calleeOf s c = some (f, caps)) (he : Enters X.P f) :
    ∃ vs : Array Value, (execOp a.eval o).run X.P w = .ok (.enter f vs) w ∧ vs.toList.length = (c.args.toList.map s.opd ++ caps).length ∧ ∀ (i : Nat) x v, (c.args.toList.map s.opd ++ caps)[i]? = some x → vs.toList[i]? = some v → VR io F w x v := by
  unfold calleeOf at hc
  split at hc
  · rename_i y hy
    split at hc
    · rename_i g cs hg
      simp only [Option.some.injEq, Prod.mk.injEq] at hc; obtain ⟨rfl, rfl⟩ := hc
      have h1 := ho y
      rw [hg] at h1
      simp only [VR] at h1
      obtain ⟨arr, e, hl⟩ := h1
      refine ⟨c.args.map a.eval ++ arr, ?_, ?_, ?_⟩
      · simp only [execOp, hop, resolve, hy, e, Deferred.ofValue, Sem.run_bind, Sem.run_pure, Result.andThen_ok, invoke]
        rw [run_enter he]
        simp
      · have := hl.length; simp at this; simp [this]
      · intro i x v hx hv
        by_cases hi : i < c.args.size
        · rw [List.getElem?_append_left (by simpa using hi)] at hx
          simp only [Array.toList_append, Array.toList_map] at hv
          rw [List.getElem?_append_left (by simpa using hi)] at hv
          simp only [List.getElem?_map, Option.map_eq_some_iff] at hx hv
          obtain ⟨p, hp, rfl⟩ := hx
          obtain ⟨q, hq, rfl⟩ := hv
          rw [hp] at hq; cases hq
          exact ho p
        · rw [List.getElem?_append_right (by simpa using hi)] at hx
          simp only [Array.toList_append, Array.toList_map] at hv
          rw [List.getElem?_append_right (by simpa using hi)] at hv
          simp only [List.length_map] at hx hv
          obtain ⟨u, hu, _, hr⟩ := hl.get hx
          rw [hu] at hv; cases hv
          exact hr
    · cases hc
  · cases hc

theorem call_sound {X : Ctx} {io : Nat → Option Nat} {F : Nat → Prop} {s : St} {a : Act} {w : World} (hs : SR X io F s a w) {all : Array Oper} {o : Oper} (hg : gd all s o = some true) (hd : dstOk X.N o.dst = true) {c : Call} (hop : o.op = .call c) {f : FuncId} {caps : List V} (hc : calleeOf s c = some (f, caps)) {ds : List D} (ha : argsD (c.args.toList.map s.opd ++ caps) = some ds) {R : D → Prop} (hr : Ret X.P f ds R) {K : Act → World → Prop} {Q : Exit → Act → World → Prop}
    (hK : ∀ r F' a' w', R r → SR X io F' (s.put o.dst (.d r)) a' w' → K a' w') : opWp X.P all o a w K Q := by
  obtain ⟨vs, hrun, hlen, hvs⟩ := run_call hs.opd hop hc hr.enters
  have hcalls := hr.run F w vs (fun b h => (hs.ff b h).1) (argsD_of ha hlen hvs)
  unfold opWp
  rw [if_pos (gd_sound hs hg)]; left
  unfold Oper.wp; rw [hrun]
  simp only [Oper.upon]
  refine hcalls.mono fun e w' ⟨v, r, F', he, h1, h2, h3, h4, h5⟩ => ?_
  subst he
  exact hK r F' _ _ h1 ((hs.grow h2 h3 h4).put (dstOk_sound hd) (by simpa only [VR] using h5))

/-! ## Lists of operations, code -/

def lift (X : Ctx) (Q : Exit → St → Prop) : Exit → Act → World → Prop := fun e a w => ∃ s io F, Q e s ∧ SR X io F s a w
def awpL (X : Ctx) (all : Array Oper) (l : List Oper) (Q : Exit → St → Prop) (s : St) : Prop := ∀ io F a w, SR X io F s a w → wpList X.P all (lift X Q) l a w
def awp (X : Ctx) (c : Code) (Q : Exit → St → Prop) (s : St) : Prop := ∀ io F a w, SR X io F s a w → c.wp X.P (lift X Q) a w

section
variable {X : Ctx} {T : TypeId → Option TyD} {all : Array Oper} {Q : Exit → St → Prop} {s : St} {o : Oper} {rest : List Oper}

theorem awpL_nil (h : Q .normal s) : awpL X all [] Q s := fun io F a w hs => ⟨s, io, F, h, hs⟩

theorem wpList_cons {P : Program} {Q : Exit → Act → World → Prop} {a : Act} {w : World} (h : opWp P all o a w (wpList P all Q rest) Q) : wpList P all Q (o :: rest) a w := h

theorem awpL_step (hT : TabOk X.P T) {C : Prop} {s' : St} (h : evalS T X.N all s o = some (C, s')) (hC : C) (k : awpL X all rest Q s') : awpL X all (o :: rest) Q s :=
  fun _ _ _ _ hs => wpList_cons (evalS_sound hT hs o h hC fun _ _ _ _ hs' => k _ _ _ _ hs')

theorem awpL_call {c : Call} {d : Option Tmp} (hop : o.op = .call c) (hg : gd all s o = some true) (hdst : o.dst = d) (hd : dstOk X.N d = true) {f : FuncId} {caps : List V} (hc : calleeOf s c = some (f, caps)) {ds : List D} (ha : argsD (c.args.toList.map s.opd ++ caps) = some ds) {R : D → Prop} (hr : Ret X.P f ds R) (k : ∀ r, R r → awpL X all rest Q (s.put d (.d r))) : awpL X all (o :: rest) Q s := by
  subst hdst
  exact fun _ _ _ _ hs => wpList_cons (call_sound hs hg hd hop hc ha hr fun r _ _ _ h hs' => k r h _ _ _ _ hs')

theorem SR.weaken {io : Nat → Option Nat} {F : Nat → Prop} {s' : St} {a : Act} {w : World} (hs : SR X io F s a w) (ht : ∀ t, s'.tmps t = s.tmps t ∨ s'.tmps t = .d .undef) (hb : ∀ k b, s'.blk k = some b → s.blk k = some b) : SR X io F s' a w :=
  ⟨hs.kept, fun t => by rcases ht t with h | h <;> rw [h]; exact hs.tm t; exact VR.undef _, hs.nt, hs.df, fun k b h => hs.bl k b (hb k b h), fun k k' b h1 h2 => hs.inj k k' b
    (fun e => by obtain ⟨c, hc⟩ := Option.ne_none_iff_exists'.1 h1; rw [hb k c hc] at e; cases e) (fun e => by obtain ⟨c, hc⟩ := Option.ne_none_iff_exists'.1 h2; rw [hb k' c hc] at e; cases e), hs.ff, hs.f0⟩

theorem awp_skip (h : Q .normal s) : awp X .skip Q s := fun io F _ _ hs => wp_skip ⟨s, io, F, h, hs⟩
theorem awp_ret (h : Q .ret s) : awp X .ret Q s := fun io F _ _ hs => wp_ret ⟨s, io, F, h, hs⟩
theorem awp_exit {id : Nat} (h : Q (.exit id) s) : awp X (.exit id) Q s := fun io F _ _ hs => wp_exit ⟨s, io, F, h, hs⟩

def andThen (K : St → Prop) (Q : Exit → St → Prop) : Exit → St → Prop
  | .normal, s => K s
  | e, s => Q e s

theorem awp_seq {x y : Code} (h : awp X x (andThen (awp X y Q) Q) s) : awp X (.seq x y) Q s := fun io F a w hs =>
  wp_seq (wp_mono (h io F a w hs) fun e a w ⟨s', io', F', hq, hs'⟩ => by
    cases e <;> first | exact hq _ _ _ _ hs' | exact ⟨s', io', F', hq, hs'⟩)

theorem awp_region {id : Nat} {l : List Oper} (h : awpL X l.toArray l Q s) : awp X (.region id l.toArray false) Q s := fun io F a w hs => wp_region_lit (h io F a w hs)

theorem awp_cond {c : Operand} {x y : Code} {t : Bool} (hc : s.opd c = .d (.bool t)) (h1 : t = true → awp X x Q s) (h2 : t = false → awp X y Q s) : awp X (.cond c x y) Q s := fun io F a w hs => by
  have := hs.opd c
  rw [hc] at this
  simp only [VR, DR] at this
  exact wp_cond_split this (fun e => h1 e _ _ _ _ hs) (fun e => h2 e _ _ _ _ hs)

def inBlock (id : Nat) (Q : Exit → St → Prop) : Exit → St → Prop
  | .exit id', s => match Nat.beq id' id with | true => Q .normal s | false => Q (.exit id') s
  | e, s => Q e s

theorem awp_block {id : Nat} {c : Code} (h : awp X c (inBlock id Q) s) : awp X (.block id c) Q s := fun io F a w hs =>
  wp_block (wp_mono (h io F a w hs) fun e a w ⟨s', io', F', hq, hs'⟩ => by
    cases e with
    | exit n =>
      simp only [inBlock, Exit.inBlock] at hq ⊢
      split <;> rename_i h
      · subst h; simp only [Nat.beq_refl] at hq; exact ⟨s', io', F', hq, hs'⟩
      · have : Nat.beq n id = false := by
          cases hb : Nat.beq n id with
          | false => rfl
          | true => exact absurd (Nat.eq_of_beq_eq_true hb) h
        rw [this] at hq; exact ⟨s', io', F', hq, hs'⟩
    | normal => exact ⟨s', io', F', hq, hs'⟩
    | goto l => exact ⟨s', io', F', hq, hs'⟩
    | ret => exact ⟨s', io', F', hq, hs'⟩
    | panic c => exact ⟨s', io', F', hq, hs'⟩
    | outgrown => exact ⟨s', io', F', hq, hs'⟩)

theorem awp_weaken {c : Code} {s' : St} (ht : ∀ t, s'.tmps t = s.tmps t ∨ s'.tmps t = .d .undef) (hb : ∀ k b, s'.blk k = some b → s.blk k = some b) (h : awp X c Q s') : awp X c Q s := fun _ _ _ _ hs => h _ _ _ _ (hs.weaken ht hb)

theorem awp_mono {c : Code} {Q' : Exit → St → Prop} (hq : ∀ e s, Q e s → Q' e s) (h : awp X c Q s) : awp X c Q' s := fun io F a w hs =>
  wp_mono (h io F a w hs) fun e a w ⟨s', io', F', h1, h2⟩ => ⟨s', io', F', hq _ _ h1, h2⟩

theorem awp_loop {c : Code} (I : St → Prop) (mu : St → Nat) (h0 : I s) (round : ∀ s, I s → awp X c (andThen (fun s' => I s' ∧ mu s' < mu s) Q) s) : awp X (.loop c) Q s := by
  intro io F a w hs b k cs
  have key : ∀ n s io F a w, mu s = n → I s → SR X io F s a w → ∃ e a' w', lift X Q e a' w' ∧ Arrives X.P (lone (b.at a (.code c :: .inLoop c :: k)) cs w) b k cs e a' w' := by
    intro n
    induction n using Nat.strongRecOn with
    | _ n ih =>
      intro s io F a w hn hI hs
      obtain ⟨e, a₁, w₁, hq, harr⟩ := round s hI io F a w hs b (.inLoop c :: k) cs
      obtain ⟨s₁, io₁, F₁, hq, hs₁⟩ := hq
      cases e with
      | normal =>
        obtain ⟨hI₁, hlt⟩ := hq
        obtain ⟨e₂, a₂, w₂, hq₂, harr₂⟩ := ih (mu s₁) (hn ▸ hlt) s₁ io₁ F₁ a₁ w₁ rfl hI₁ hs₁
        exact ⟨e₂, a₂, w₂, hq₂, .of_steps (Steps.trans harr (.one step_inLoop)) harr₂⟩
      | exit id => exact ⟨_, a₁, w₁, ⟨s₁, io₁, F₁, hq, hs₁⟩, .pass (x := .inLoop c) rfl (fun _ _ => .inl (by simp)) harr⟩
      | goto l => exact ⟨_, a₁, w₁, ⟨s₁, io₁, F₁, hq, hs₁⟩, .pass (x := .inLoop c) rfl (fun _ _ => .inl (by simp)) harr⟩
      | ret => exact ⟨_, a₁, w₁, ⟨s₁, io₁, F₁, hq, hs₁⟩, .pass (x := .inLoop c) rfl (fun _ _ => .inl (by simp)) harr⟩
      | panic ch => exact ⟨_, a₁, w₁, ⟨s₁, io₁, F₁, hq, hs₁⟩, .pass (x := .inLoop c) rfl (fun _ _ => .inl (by simp)) harr⟩
      | outgrown => exact ⟨_, a₁, w₁, ⟨s₁, io₁, F₁, hq, hs₁⟩, .pass (x := .inLoop c) rfl (fun _ _ => .inl (by simp)) harr⟩
  obtain ⟨e, a', w', hq, harr⟩ := key _ s io F a w rfl h0 hs
  exact ⟨e, a', w', hq, .of_steps (.one step_loop) harr⟩
end
end Go.Ab
