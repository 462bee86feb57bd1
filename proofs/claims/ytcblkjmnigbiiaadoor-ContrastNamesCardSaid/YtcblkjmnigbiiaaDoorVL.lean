/-
  Contracts, calls, lists of operations and code. Conditions: the table of types is the program's.
-/
import Derived.Test.YtcblkjmnigbiiaaDoorVK
set_option linter.unusedSimpArgs false
set_option linter.unusedVariables false
set_option linter.unusedSectionVars false
namespace Go.Vw
open Go.RowKit

/-- The function can be entered. -/
def Enters (P : Program) (f : FuncId) : Prop := ∃ fn, P.funcs[f]? = some fn ∧ (fn.name == "runtime.NumGoroutine") = false ∧ fn.body.isNone = false

/-- A contract of a function of data: given arguments that stand for ds, it returns what stands for some r of R, in new memory or in that of the arguments; nothing that was there turns. -/
structure Ret (P : Program) (f : FuncId) (ds : List D) (R : D → Prop) : Prop where
  enters : Enters P f
  run : ∀ (F : Nat → Prop) (w : World) (vs : Array Value), (∀ b, F b → b < w.heap.size) → vs.size = ds.length → DRT F w (fun i => vs[i]?) 0 ds →
    Calls P f vs w fun e w' => ∃ v r F', e = .returned v ∧ R r ∧ Below w.heap.size w w' ∧ (∀ b, F b → F' b) ∧ (∀ b, F' b → F b ∨ (w.heap.size ≤ b ∧ b < w'.heap.size)) ∧ DR F' w' r v

theorem Ret.mono {P : Program} {f : FuncId} {ds : List D} {R R' : D → Prop} (h : Ret P f ds R) (hr : ∀ r, R r → R' r) : Ret P f ds R' :=
  ⟨h.enters, fun F w vs hF hl hv => (h.run F w vs hF hl hv).mono fun _ _ ⟨v, r, F', e, h1, h2⟩ => ⟨v, r, F', e, hr r h1, h2⟩⟩
theorem Ret.to {P : Program} {f : FuncId} {ds : List D} {r r' : D} (h : Ret P f ds (· = r)) (e : r = r') : Ret P f ds (· = r') := e ▸ h
theorem Ret.args {P : Program} {f : FuncId} {ds ds' : List D} {R : D → Prop} (h : Ret P f ds' R) (hl : LeT ds ds') : Ret P f ds R :=
  ⟨h.enters, fun F w vs hF hs hv => h.run F w vs hF (hs.trans hl.1) (hl.2 F w _ _ hv)⟩

theorem run_enter {P : Program} {f : FuncId} (he : Enters P f) (w : World) (args : Array Value) : (callFunc f args).run P w = .ok (.enter f args) w := by
  obtain ⟨fn, h1, h2, h3⟩ := he
  simp only [callFunc, Sem.run_bind, run_program, Result.andThen_ok, h1, h2, h3]
  rfl

/-- The function that a call calls, and what it has captured. -/
def calleeOf (s : St) (c : Call) : Option (FuncId × List V) :=
  match c.callee with
  | .value y => match s.opd y with
    | .fn f cs => some (f, cs)
    | .d (.fn f cs) => some (f, cs.map V.d)
    | _ => none
  | _ => none

/-- What the machine does at a call of a function. -/
theorem run_call {P : Program} {io : Keys} {F : Nat → Prop} {s : St} {w : World} {ev : Operand → Value} {o : Oper} {c : Call} (ho : ∀ y ∈ o.op.operands.toList, VR io F w (s.opd y) (ev y)) (hop : o.op = .call c) {f : FuncId} {caps : List V} (hc : calleeOf s c = some (f, caps)) (he : Enters P f) :
    ∃ vs : Array Value, (execOp ev o).run P w = .ok (.enter f vs) w ∧ vs.size = (c.args.toList.map s.opd ++ caps).length ∧ VRT io F w (fun i => vs[i]?) 0 (c.args.toList.map s.opd ++ caps) := by
  rw [hop] at ho
  simp only [Op.operands, Call.operands] at ho
  unfold calleeOf at hc
  split at hc
  · rename_i y hy
    rw [hy] at ho
    have hargs : ∀ (i : Nat) x, c.args.toList[i]? = some x → VR io F w (s.opd x) (ev x) := fun i x hi => ho x (by simp only [Array.toList_append, List.mem_append]; exact .inr (List.mem_of_getElem? hi))
    have hy1 := ho y (by simp)
    have key : ∀ (g : FuncId) (cs : List V) (arr : Array Value), ev y = .func (.func g) #[] arr → arr.size = cs.length → VRA io F w (fun i => arr[i]?) 0 cs → Enters P g →
        ∃ vs : Array Value, (execOp ev o).run P w = .ok (.enter g vs) w ∧ vs.size = (c.args.toList.map s.opd ++ cs).length ∧ VRT io F w (fun i => vs[i]?) 0 (c.args.toList.map s.opd ++ cs) := fun g cs arr e hl ha he => by
      refine ⟨c.args.map ev ++ arr, ?_, by simp [hl], ?_⟩
      · simp only [execOp, hop, resolve, hy, e, Deferred.ofValue, Sem.run_bind, Sem.run_pure, Result.andThen_ok, invoke]
        rw [run_enter he]
        simp
      · rw [VRT_iff]
        intro i x hx
        simp only [Nat.zero_add]
        by_cases hi : i < c.args.size
        · rw [List.getElem?_append_left (by simpa using hi)] at hx
          simp only [List.getElem?_map, Option.map_eq_some_iff] at hx
          obtain ⟨p, hp, rfl⟩ := hx
          refine ⟨ev p, ?_, hargs i p hp⟩
          rw [Array.getElem?_append_left (by simpa using hi), Array.getElem?_map]
          have : c.args[i]? = some p := by simpa using hp
          rw [this]; rfl
        · rw [List.getElem?_append_right (by simpa using hi)] at hx
          simp only [List.length_map, Array.length_toList] at hx
          obtain ⟨v, h1, _, h3⟩ := VRA_iff.1 ha _ x hx
          refine ⟨v, ?_, h3⟩
          rw [Array.getElem?_append_right (by simpa using hi)]
          simpa using h1
    split at hc
    · rename_i g cs hg
      simp only [Option.some.injEq, Prod.mk.injEq] at hc; obtain ⟨rfl, rfl⟩ := hc
      rw [hg] at hy1
      simp only [VR] at hy1
      obtain ⟨arr, e, hl, ha⟩ := hy1
      exact key g cs arr e hl ha he
    · rename_i g cs hg
      simp only [Option.some.injEq, Prod.mk.injEq] at hc; obtain ⟨rfl, rfl⟩ := hc
      rw [hg] at hy1
      simp only [VR, DR] at hy1
      obtain ⟨arr, e, hl, ha⟩ := hy1
      exact key g (cs.map V.d) arr e (by simpa using hl) (DRA.toV ha) he
    · cases hc
  · cases hc

/-! ## The call's own blocks, lent -/

mutual
/-- A value as data, where nothing is written for a while (m: a slice is all of its block's list). -/
def V.asD (m : Bool) (s : St) : V → Ev D
  | .d x => some (True, x)
  | .own k o n _ sz => match s.blk k with
    | some (.data _ sz' e z l) => match Nat.beq sz sz' with
      | true => match m, o with
        | true, 0 => some (n = l.length, .sl sz' e z l)
        | true, _ + 1 => none
        | false, o => some (True, .sl sz' e z (cut o n l))
      | false => none
    | _ => none
  | .ptr k o => match s.blk k with
    | some (.box _ cells) => match allD cells with | some ds => some (True, .ptr ds o) | none => none
    | _ => none
  | .eptr k sz i f => match s.blk k with
    | some (.data _ sz' e z l) => match Nat.beq sz sz' with
      | true => some (i < l.length, .ptr (e (l.getD i z)) f)
      | false => none
    | _ => none
  | .agg cs => match V.asDs m s cs with | some (C, ds) => some (C, .agg ds) | none => none
  | .tup cs => match V.asDs m s cs with | some (C, ds) => some (C, .tup ds) | none => none
  | .fn f cs => match V.asDs m s cs with | some (C, ds) => some (C, .fn f ds) | none => none
def V.asDs (m : Bool) (s : St) : List V → Ev (List D)
  | [] => some (True, [])
  | x :: xs => match V.asD m s x, V.asDs m s xs with
    | some (C, y), some (C', ys) => some (C ∧ C', y :: ys)
    | _, _ => none
end

/-- The data's blocks, and the call's own. -/
def Lent (s : St) (io : Nat → Option Nat) (F : Nat → Prop) : Nat → Prop := fun b => F b ∨ ∃ k, s.blk k ≠ none ∧ io k = some b

section
variable {A : Nat → Prop} {n0 : Nat} {io : Nat → Option Nat} {F : Nat → Prop} {s : St} {w : World} (hb : ∀ k b, s.blk k = some b → BR A n0 (s.keys io) F w k b) {m : Bool}
include hb

theorem asD_own {k o n : Nat} {ty ty' : TypeId} {sz : Nat} {α : Type} {e : α → List D} {z : α} {l : List α} (hk : s.blk k = some (.data ty' sz e z l)) {v : Value} (h : VR (s.keys io) F w (.own k o n ty sz) v) : DR (Lent s io F) w (.sl sz e z (cut o n l)) v := by
  have hbr := hb k _ hk
  have ok : SubOk (Lent s io F) w (s.keys io) k (some (.data ty' sz e z l)) := by
    simp only [SubOk]
    refine ⟨ln_of hk, ?_⟩
    simp only [BR] at hbr
    rcases hbr with h | ⟨b, arr, h1, h2, h3, h4, h5⟩
    · exact .inl h
    · exact .inr ⟨b, arr, ty', (0, 0), h1, .inr ⟨k, by rw [hk]; simp, h1⟩, h4, LRA.mono (fun _ h => .inl h) (fun _ _ => rfl) h5⟩
  simpa only [subOwn, Nat.beq_refl] using subOwn_sound ok h

mutual
theorem asD_sound : ∀ (x : V) (v : Value) {C : Prop} {d : D}, V.asD m s x = some (C, d) → C → VR (s.keys io) F w x v → DR (Lent s io F) w d v
  | .d x, v, C, d, h, hC, hv => by
    simp only [V.asD, Option.some.injEq, Prod.mk.injEq] at h; obtain ⟨rfl, rfl⟩ := h
    simp only [VR] at hv
    exact DR.mono (fun _ h => .inl h) (fun _ _ => rfl) _ _ hv
  | .own k o n ty sz, v, C, d, h, hC, hv => by
    simp only [V.asD] at h
    split at h
    · rename_i ty' sz' α e z l hk
      split at h
      · rename_i hsz
        have hsz := Nat.eq_of_beq_eq_true hsz
        subst hsz
        have h0 := asD_own hb hk hv
        split at h
        · simp only [Option.some.injEq, Prod.mk.injEq] at h; obtain ⟨rfl, rfl⟩ := h
          subst hC
          simpa using h0
        · cases h
        · simp only [Option.some.injEq, Prod.mk.injEq] at h; obtain ⟨rfl, rfl⟩ := h
          exact h0
      · cases h
    · cases h
  | .ptr k o, v, C, d, h, hC, hv => by
    simp only [V.asD] at h
    split at h
    · rename_i ty cells hk
      split at h
      · rename_i ds hds
        simp only [Option.some.injEq, Prod.mk.injEq] at h; obtain ⟨rfl, rfl⟩ := h
        have hbr := hb k _ hk
        simp only [BR] at hbr
        obtain ⟨b, arr, h1, h2, h3, h4, h5⟩ := hbr
        simp only [VR] at hv
        obtain ⟨b', g1, rfl⟩ := hv
        rw [h1] at g1; cases g1
        simp only [DR]
        exact ⟨b, 0, arr, ty, (0, 0), by simp, .inr ⟨k, by rw [hk]; simp, h1⟩, h4, DRA.mono (fun _ h => .inl h) (fun _ _ => rfl) _ _ _ (VRA.ofD hds h5)⟩
      · cases h
    · cases h
  | .eptr k sz i f, v, C, d, h, hC, hv => by
    simp only [V.asD] at h
    split at h
    · rename_i ty' sz' α e z l hk
      split at h
      · rename_i hsz
        have hsz := Nat.eq_of_beq_eq_true hsz
        subst hsz
        simp only [Option.some.injEq, Prod.mk.injEq] at h; obtain ⟨rfl, rfl⟩ := h
        have hbr := hb k _ hk
        simp only [BR] at hbr
        rcases hbr with ⟨_, rfl⟩ | ⟨b, arr, h1, h2, h3, h4, h5⟩
        · simp at hC
        · simp only [VR] at hv
          obtain ⟨b', g1, rfl⟩ := hv
          rw [h1] at g1; cases g1
          obtain ⟨q1, q2⟩ := h5 i (l.getD i z) (by rw [List.getElem?_eq_getElem hC, List.getD_eq_getElem?_getD, List.getElem?_eq_getElem hC]; rfl)
          rw [Nat.zero_add] at q2
          simp only [DR]
          exact ⟨b, _, arr, ty', (0, 0), rfl, .inr ⟨k, by rw [hk]; simp, h1⟩, h4, DRA.mono (fun _ h => .inl h) (fun _ _ => rfl) _ _ _ q2⟩
      · cases h
    · cases h
  | .agg cs, v, C, d, h, hC, hv => by
    simp only [V.asD] at h
    split at h
    · rename_i C' ds hds
      simp only [Option.some.injEq, Prod.mk.injEq] at h; obtain ⟨rfl, rfl⟩ := h
      simp only [VR] at hv
      obtain ⟨arr, e, hl, ha⟩ := hv
      obtain ⟨q1, q2⟩ := asDs_sound cs hds hC _ _ ha
      simp only [DR]; exact ⟨arr, e, hl.trans q1, q2⟩
    · cases h
  | .tup cs, v, C, d, h, hC, hv => by
    simp only [V.asD] at h
    split at h
    · rename_i C' ds hds
      simp only [Option.some.injEq, Prod.mk.injEq] at h; obtain ⟨rfl, rfl⟩ := h
      simp only [VR] at hv
      obtain ⟨arr, e, hl, ha⟩ := hv
      obtain ⟨q1, q2⟩ := asTs_sound cs hds hC _ _ ha
      simp only [DR]; exact ⟨arr, e, hl.trans q1, q2⟩
    · cases h
  | .fn f cs, v, C, d, h, hC, hv => by
    simp only [V.asD] at h
    split at h
    · rename_i C' ds hds
      simp only [Option.some.injEq, Prod.mk.injEq] at h; obtain ⟨rfl, rfl⟩ := h
      simp only [VR] at hv
      obtain ⟨arr, e, hl, ha⟩ := hv
      obtain ⟨q1, q2⟩ := asDs_sound cs hds hC _ _ ha
      simp only [DR]; exact ⟨arr, e, hl.trans q1, q2⟩
    · cases h
theorem asDs_sound : ∀ (xs : List V) {C : Prop} {ds : List D}, V.asDs m s xs = some (C, ds) → C → ∀ (g : Nat → Option Value) (off : Nat), VRA (s.keys io) F w g off xs → xs.length = ds.length ∧ DRA (Lent s io F) w g off ds
  | [], C, ds, h, hC, g, off, ha => by
    simp only [V.asDs, Option.some.injEq, Prod.mk.injEq] at h; obtain ⟨rfl, rfl⟩ := h
    exact ⟨rfl, by simp only [DRA]⟩
  | x :: xs, C, ds, h, hC, g, off, ha => by
    simp only [V.asDs] at h
    split at h
    · rename_i C1 y C2 ys h1 h2
      simp only [Option.some.injEq, Prod.mk.injEq] at h; obtain ⟨rfl, rfl⟩ := h
      simp only [VRA] at ha
      obtain ⟨⟨v, e, ho, hv⟩, hr⟩ := ha
      obtain ⟨q1, q2⟩ := asDs_sound xs h2 hC.2 g _ hr
      refine ⟨by simp [q1], ?_⟩
      simp only [DRA]
      exact ⟨⟨v, e, ho, asD_sound x v h1 hC.1 hv⟩, q2⟩
    · cases h
theorem asTs_sound : ∀ (xs : List V) {C : Prop} {ds : List D}, V.asDs m s xs = some (C, ds) → C → ∀ (g : Nat → Option Value) (off : Nat), VRT (s.keys io) F w g off xs → xs.length = ds.length ∧ DRT (Lent s io F) w g off ds
  | [], C, ds, h, hC, g, off, ha => by
    simp only [V.asDs, Option.some.injEq, Prod.mk.injEq] at h; obtain ⟨rfl, rfl⟩ := h
    exact ⟨rfl, by simp only [DRT]⟩
  | x :: xs, C, ds, h, hC, g, off, ha => by
    simp only [V.asDs] at h
    split at h
    · rename_i C1 y C2 ys h1 h2
      simp only [Option.some.injEq, Prod.mk.injEq] at h; obtain ⟨rfl, rfl⟩ := h
      simp only [VRT] at ha
      obtain ⟨⟨v, e, hv⟩, hr⟩ := ha
      obtain ⟨q1, q2⟩ := asTs_sound xs h2 hC.2 g _ hr
      refine ⟨by simp [q1], ?_⟩
      simp only [DRT]
      exact ⟨⟨v, e, asD_sound x v h1 hC.1 hv⟩, q2⟩
    · cases h
end
end

mutual
/-- No reference to memory. -/
def D.noRef : D → Bool
  | .bool _ => true
  | .int _ _ => true
  | .str _ => true
  | .agg cs => D.noRefs cs
  | .tup cs => D.noRefs cs
  | _ => false
def D.noRefs : List D → Bool
  | [] => true
  | x :: xs => D.noRef x && D.noRefs xs
end
section
variable {F F' : Nat → Prop} {w w' : World}
mutual
theorem DR.noRef : ∀ (x : D) (v : Value), x.noRef = true → DR F w x v → DR F' w' x v
  | .bool _, _, _, h => by simp only [DR] at h ⊢; exact h
  | .int _ _, _, _, h => by simp only [DR] at h ⊢; exact h
  | .str _, _, _, h => by simp only [DR] at h ⊢; exact h
  | .agg cs, _, e, h => by simp only [DR, D.noRef] at h e ⊢; obtain ⟨a, e', l, h⟩ := h; exact ⟨a, e', l, DRA.noRef cs e _ _ h⟩
  | .tup cs, _, e, h => by simp only [DR, D.noRef] at h e ⊢; obtain ⟨a, e', l, h⟩ := h; exact ⟨a, e', l, DRT.noRef cs e _ _ h⟩
  | .undef, _, e, _ => by cases e
  | .sl _ _ _ _, _, e, _ => by cases e
  | .nils, _, e, _ => by cases e
  | .ptr _ _, _, e, _ => by cases e
  | .fn _ _, _, e, _ => by cases e
  | .ifc _ _, _, e, _ => by cases e
  | .raw _, _, e, _ => by cases e
  | .full _, _, e, _ => by cases e
theorem DRA.noRef : ∀ (xs : List D), D.noRefs xs = true → ∀ (g : Nat → Option Value) (off : Nat), DRA F w g off xs → DRA F' w' g off xs
  | [], _, _, _, _ => by simp only [DRA]
  | x :: xs, e, g, off, h => by
      simp only [D.noRefs, Bool.and_eq_true] at e
      simp only [DRA] at h ⊢
      obtain ⟨⟨v, e', h0, h1⟩, h2⟩ := h
      exact ⟨⟨v, e', h0, DR.noRef x v e.1 h1⟩, DRA.noRef xs e.2 _ _ h2⟩
theorem DRT.noRef : ∀ (xs : List D), D.noRefs xs = true → ∀ (g : Nat → Option Value) (off : Nat), DRT F w g off xs → DRT F' w' g off xs
  | [], _, _, _, _ => by simp only [DRT]
  | x :: xs, e, g, off, h => by
      simp only [D.noRefs, Bool.and_eq_true] at e
      simp only [DRT] at h ⊢
      obtain ⟨⟨v, e', h1⟩, h2⟩ := h
      exact ⟨⟨v, e', DR.noRef x v e.1 h1⟩, DRT.noRef xs e.2 _ _ h2⟩
end
end

section
variable {X : Ctx} {all : Array Oper} {s : St} {o : Oper} {c : Call} {f : FuncId} {caps : List V} {ds ds' : List D}

/-- A call of a function of data, given data. -/
theorem m_callR (hg : gd all s o = some true) (hop : o.op = .call c) (hc : calleeOf s c = some (f, caps)) (ha : allD (c.args.toList.map s.opd ++ caps) = some ds) (le : LeT ds ds') {r : D} (hr : Ret X.P f ds' (· = r)) : M1 X all s o (.d r) := fun io F a w ht hb hF K Q hK => by
  obtain ⟨vs, h1, h2, h3⟩ := run_call (P := X.P) (operands_of ht) hop hc hr.enters
  unfold opWp
  rw [if_pos (gd_sound ht hg)]; left
  unfold Oper.wp; rw [h1]
  simp only [Oper.upon]
  have hm := allD_map ha
  refine ((hr.args le).run F w vs hF (by rw [h2, hm]; simp) (VRT.ofD ha h3)).mono fun e w' ⟨v, r', F', he, g1, g2, g3, g4, g5⟩ => ?_
  subst he g1
  exact hK F' w' v g2 g3 g4 (by simpa only [VR] using g5)

/-- A call of a function of data, the call's own blocks lent; the result refers to no memory. -/
theorem m_callB (hg : gd all s o = some true) (hop : o.op = .call c) (hc : calleeOf s c = some (f, caps)) (m : Bool) {C : Prop} (ha : V.asDs m s (c.args.toList.map s.opd ++ caps) = some (C, ds)) (le : LeT ds ds') {r : D} (hr : Ret X.P f ds' (· = r)) (hC : C) (hn : r.noRef = true) : M1 X all s o (.d r) := fun io F a w ht hb hF K Q hK => by
  obtain ⟨vs, h1, h2, h3⟩ := run_call (P := X.P) (operands_of ht) hop hc hr.enters
  unfold opWp
  rw [if_pos (gd_sound ht hg)]; left
  unfold Oper.wp; rw [h1]
  simp only [Oper.upon]
  obtain ⟨q1, q2⟩ := asTs_sound hb _ ha hC _ _ h3
  have hL : ∀ b, Lent s io F b → b < w.heap.size := fun b h => by
    rcases h with h | ⟨k, hk, e⟩
    · exact hF b h
    · obtain ⟨bl, hbl⟩ := Option.ne_none_iff_exists'.1 hk
      have := hb k bl hbl
      cases bl with
      | data ty sz e' z l =>
        simp only [BR] at this
        rcases this with ⟨h0, _⟩ | ⟨c', arr, g1, _, _, g4, _⟩
        · rw [show io k = none from h0] at e; cases e
        · rw [show io k = some c' from g1] at e; cases e; exact lt_of_heap g4
      | box ty cells =>
        simp only [BR] at this
        obtain ⟨c', arr, g1, _, _, g4, _⟩ := this
        rw [show io k = some c' from g1] at e; cases e; exact lt_of_heap g4
      | hole ty sz e' z l i v =>
        simp only [BR] at this
        obtain ⟨c', arr, g1, _, _, g4, _⟩ := this
        rw [show io k = some c' from g1] at e; cases e; exact lt_of_heap g4
  refine ((hr.args le).run (Lent s io F) w vs hL (by omega) q2).mono fun e w' ⟨v, r', F', he, g1, g2, g3, g4, g5⟩ => ?_
  subst he g1
  exact hK F w' v g2 (fun _ h => h) (fun _ h => .inl h) (by simp only [VR]; exact DR.noRef _ _ hn g5)

/-- A call of which a family of results is known. -/
theorem e_callR {R : D → Prop} {s' : D → St} (hg : gd all s o = some true) (hd : dstOk X.N o.dst = true) (hop : o.op = .call c) (hc : calleeOf s c = some (f, caps)) (ha : allD (c.args.toList.map s.opd ++ caps) = some ds) (le : LeT ds ds') (hr : Ret X.P f ds' R) {io : Nat → Option Nat} {F : Nat → Prop} {a : Act} {w : World} (hs : SR X io F s a w) {K : Act → World → Prop} {Q : Exit → Act → World → Prop} (hK : ∀ r, R r → ∀ F' a' w', SR X io F' (s.put o.dst (.d r)) a' w' → K a' w') : opWp X.P all o a w K Q := by
  obtain ⟨vs, h1, h2, h3⟩ := run_call (P := X.P) (operands_of (all := all) (fun t _ => hs.tm t)) hop hc hr.enters
  unfold opWp
  rw [if_pos (gd_sound (fun t _ => hs.tm t) hg)]; left
  unfold Oper.wp; rw [h1]
  simp only [Oper.upon]
  have hm := allD_map ha
  refine ((hr.args le).run F w vs (fun b h => (hs.ff b h).1) (by rw [h2, hm]; simp) (VRT.ofD ha h3)).mono fun e w' ⟨v, r', F', he, g1, g2, g3, g4, g5⟩ => ?_
  subst he
  exact hK r' g1 F' _ _ ((hs.grow g2 g3 g4).put (dstOk_sound hd) (by simpa only [VR] using g5))

/-- The first block of the call's own among a call's arguments. -/
def ownKey1 : List V → Option Nat
  | [] => none
  | x :: r => match x with
    | .own k _ _ _ _ => some k
    | .ptr k _ => some k
    | _ => ownKey1 r
def ownKey2 : List V → Option Nat
  | [] => none
  | x :: r => match x with
    | .own k _ _ _ _ => some k
    | .ptr k _ => some k
    | .fn _ cs => match ownKey1 cs with | some k => some k | none => ownKey2 r
    | .agg cs => match ownKey1 cs with | some k => some k | none => ownKey2 r
    | _ => ownKey2 r
def ownKey : List V → Option Nat
  | [] => none
  | x :: r => match x with
    | .own k _ _ _ _ => some k
    | .ptr k _ => some k
    | .fn _ cs => match ownKey2 cs with | some k => some k | none => ownKey r
    | .agg cs => match ownKey2 cs with | some k => some k | none => ownKey r
    | _ => ownKey r

/-- A block is given away before an operation. -/
theorem e_frz {s' : St} (k : Nat) {b : Blk} (hk : s.blk k = some b) (h : E1 X all (s.sub k (some b)) o s') : E1 X all s o s' := fun io F a w hs K Q hK => by
  obtain ⟨F', hs', _⟩ := hs.freeze k hk
  exact h io F' a w hs' K Q hK
end

/-! ## Lists of operations, code -/

def lift (X : Ctx) (Q : Exit → St → Prop) : Exit → Act → World → Prop := fun e a w => ∃ s io F, Q e s ∧ SR X io F s a w
def awpL (X : Ctx) (all : Array Oper) (l : List Oper) (Q : Exit → St → Prop) (s : St) : Prop := ∀ io F a w, SR X io F s a w → wpList X.P all (lift X Q) l a w
def awp (X : Ctx) (c : Code) (Q : Exit → St → Prop) (s : St) : Prop := ∀ io F a w, SR X io F s a w → c.wp X.P (lift X Q) a w
def andThen (K : St → Prop) (Q : Exit → St → Prop) : Exit → St → Prop
  | .normal, s => K s
  | e, s => Q e s
def inBlock (id : Nat) (Q : Exit → St → Prop) : Exit → St → Prop
  | .exit id', s => match Nat.beq id' id with | true => Q .normal s | false => Q (.exit id') s
  | e, s => Q e s

section
variable {X : Ctx} {all : Array Oper} {Q : Exit → St → Prop} {s : St} {o : Oper} {rest : List Oper}

theorem awpL_nil (h : Q .normal s) : awpL X all [] Q s := fun io F a w hs => ⟨s, io, F, h, hs⟩
theorem awpL_then {K : St → Prop} (h : K s) : awpL X all [] (andThen K Q) s := awpL_nil h
theorem awpL_in {id : Nat} (h : Q .normal s) : awpL X all [] (inBlock id Q) s := awpL_nil h
theorem wpList_cons {P : Program} {Q : Exit → Act → World → Prop} {a : Act} {w : World} (h : opWp P all o a w (wpList P all Q rest) Q) : wpList P all Q (o :: rest) a w := h
theorem awpL_step {s' : St} (h : E1 X all s o s') (k : awpL X all rest Q s') : awpL X all (o :: rest) Q s :=
  fun _ _ _ _ hs => wpList_cons (h _ _ _ _ hs _ _ fun _ _ _ _ hs' => k _ _ _ _ hs')
theorem awpL_frz (k : Nat) {b : Blk} (hk : s.blk k = some b) (h : awpL X all rest Q (s.sub k (some b))) : awpL X all rest Q s := fun io F a w hs => by
  obtain ⟨F', hs', _⟩ := hs.freeze k hk
  exact h io F' a w hs'
theorem awp_frz {c : Code} (k : Nat) {b : Blk} (hk : s.blk k = some b) (h : awp X c Q (s.sub k (some b))) : awp X c Q s := fun io F a w hs => by
  obtain ⟨F', hs', _⟩ := hs.freeze k hk
  exact h io F' a w hs'

theorem awp_skip (h : Q .normal s) : awp X .skip Q s := fun io F _ _ hs => wp_skip ⟨s, io, F, h, hs⟩
theorem awp_ret (h : Q .ret s) : awp X .ret Q s := fun io F _ _ hs => wp_ret ⟨s, io, F, h, hs⟩
theorem awp_exit {id : Nat} (h : Q (.exit id) s) : awp X (.exit id) Q s := fun io F _ _ hs => wp_exit ⟨s, io, F, h, hs⟩

theorem awp_seq {x y : Code} (h : awp X x (andThen (awp X y Q) Q) s) : awp X (.seq x y) Q s := fun io F a w hs =>
  wp_seq (wp_mono (h io F a w hs) fun e a w ⟨s', io', F', hq, hs'⟩ => by
    cases e <;> first | exact hq _ _ _ _ hs' | exact ⟨s', io', F', hq, hs'⟩)

theorem awp_region {id : Nat} {l : List Oper} (h : awpL X l.toArray l Q s) : awp X (.region id l.toArray false) Q s := fun io F a w hs => wp_region_lit (h io F a w hs)

theorem awp_cond {c : Operand} {x y : Code} {t : Bool} (hc : s.opd c = .d (.bool t)) (h1 : t = true → awp X x Q s) (h2 : t = false → awp X y Q s) : awp X (.cond c x y) Q s := fun io F a w hs => by
  have := hs.opd c
  rw [hc] at this
  simp only [VR, DR] at this
  exact wp_cond_split this (fun e => h1 e _ _ _ _ hs) (fun e => h2 e _ _ _ _ hs)
theorem awp_condT {c : Operand} {x y : Code} (hc : s.opd c = .d (.bool true)) (h : awp X x Q s) : awp X (.cond c x y) Q s := awp_cond hc (fun _ => h) (fun e => by cases e)
theorem awp_condF {c : Operand} {x y : Code} (hc : s.opd c = .d (.bool false)) (h : awp X y Q s) : awp X (.cond c x y) Q s := awp_cond hc (fun e => by cases e) (fun _ => h)
theorem awp_condD {c : Operand} {x y : Code} {p : Prop} [Decidable p] (hc : s.opd c = .d (.bool (decide p))) (h1 : p → awp X x Q s) (h2 : ¬ p → awp X y Q s) : awp X (.cond c x y) Q s := awp_cond hc (fun e => h1 (of_decide_eq_true e)) (fun e => h2 (of_decide_eq_false e))
theorem awp_condN {c : Operand} {x y : Code} {p : Prop} [Decidable p] (hc : s.opd c = .d (.bool (!decide p))) (h1 : ¬ p → awp X x Q s) (h2 : p → awp X y Q s) : awp X (.cond c x y) Q s := awp_cond hc (fun e => h1 (of_decide_eq_false (by simpa using e))) (fun e => h2 (of_decide_eq_true (by simpa using e)))

theorem awp_block {id : Nat} {c : Code} (h : awp X c (inBlock id Q) s) : awp X (.block id c) Q s := fun io F a w hs =>
  wp_block (wp_mono (h io F a w hs) fun e a w ⟨s', io', F', hq, hs'⟩ => by
    cases e with
    | exit n =>
      simp only [inBlock, Exit.inBlock] at hq ⊢
      split <;> rename_i h
      · subst h; simp only [Nat.beq_refl] at hq; exact ⟨s', io', F', hq, hs'⟩
      · have : Nat.beq n id = false := by
          cases hb : Nat.beq n id with
          | false => rfl
          | true => exact absurd (Nat.eq_of_beq_eq_true hb) h
        rw [this] at hq; exact ⟨s', io', F', hq, hs'⟩
    | normal => exact ⟨s', io', F', hq, hs'⟩
    | goto l => exact ⟨s', io', F', hq, hs'⟩
    | ret => exact ⟨s', io', F', hq, hs'⟩
    | panic c => exact ⟨s', io', F', hq, hs'⟩
    | outgrown => exact ⟨s', io', F', hq, hs'⟩)

theorem awp_mono {c : Code} {Q' : Exit → St → Prop} (hq : ∀ e s, Q e s → Q' e s) (h : awp X c Q s) : awp X c Q' s := fun io F a w hs =>
  wp_mono (h io F a w hs) fun e a w ⟨s', io', F', h1, h2⟩ => ⟨s', io', F', hq _ _ h1, h2⟩

/-- A guard whose outcome is open: both ways. -/
theorem awpL_guard {d : Tmp} {b : Bool} (hd : s.tmps d = .d (.bool b)) (h1 : b = true → awpL X all rest Q (s.put (some d) (.d (.bool true)))) (h2 : b = false → awpL X all rest Q (s.put (some d) (.d (.bool false)))) : awpL X all rest Q s := fun io F a w hs => by
  have key : ∀ t, b = t → SR X io F (s.put (some d) (.d (.bool t))) a w := fun t e => by
    subst e
    refine ⟨hs.kept, fun u => ?_, hs.nt, hs.df, hs.bl, hs.inj, hs.ff, hs.f0, hs.st⟩
    simp only [St.put]
    cases hb : Nat.beq u d with
    | true => have := Nat.eq_of_beq_eq_true hb; subst this; simp only [cond_true]; rw [← hd]; exact hs.tm u
    | false => simp only [cond_false]; exact hs.tm u
  cases b with
  | true => exact h1 rfl _ _ _ _ (key true rfl)
  | false => exact h2 rfl _ _ _ _ (key false rfl)
end
end Go.Vw
