/-
  Data that stands for other data; lists in rows; one step of the machine; new variables and stores. Conditions: the table of types is the program's.
-/
import Derived.Test.YtcblkjmnigbiiaaDoorVG
set_option linter.unusedSimpArgs false
set_option linter.unusedVariables false
namespace Go.Vw
open Go.RowKit

/-! ## Data in another form -/

/-- What stands for x stands for y, too. -/
def LeD (x y : D) : Prop := ∀ F w v, DR F w x v → DR F w y v
def LeL (xs ys : List D) : Prop := xs.length = ys.length ∧ ∀ F w g off, DRA F w g off xs → DRA F w g off ys
def LeT (xs ys : List D) : Prop := xs.length = ys.length ∧ ∀ F w g off, DRT F w g off xs → DRT F w g off ys
/-- Rows of cells as the cells of a list's members. -/
def LeR (sz : Nat) (rows : List (List D)) {α : Type} (e : α → List D) : List α → Prop
  | [] => rows = []
  | a :: l => ∃ r rest, rows = r :: rest ∧ r.length = sz ∧ LeL r (e a) ∧ LeR sz rest e l

theorem LeD.refl (x : D) : LeD x x := fun _ _ _ h => h
theorem LeD.trans {x y z : D} (h : LeD x y) (k : LeD y z) : LeD x z := fun F w v g => k F w v (h F w v g)
theorem LeL.refl (xs : List D) : LeL xs xs := ⟨rfl, fun _ _ _ _ h => h⟩
theorem LeL.nil : LeL [] [] := LeL.refl []
theorem LeL.cons {x y : D} {xs ys : List D} (h : LeD x y) (k : LeL xs ys) : LeL (x :: xs) (y :: ys) := ⟨by simp [k.1], fun F w g off e => by
  simp only [DRA] at e ⊢
  obtain ⟨⟨v, h1, h2, h3⟩, h4⟩ := e
  exact ⟨⟨v, h1, h2, h F w v h3⟩, k.2 F w g _ h4⟩⟩
theorem LeT.refl (xs : List D) : LeT xs xs := ⟨rfl, fun _ _ _ _ h => h⟩
theorem LeT.nil : LeT [] [] := LeT.refl []
theorem LeT.cons {x y : D} {xs ys : List D} (h : LeD x y) (k : LeT xs ys) : LeT (x :: xs) (y :: ys) := ⟨by simp [k.1], fun F w g off e => by
  simp only [DRT] at e ⊢
  obtain ⟨⟨v, h1, h3⟩, h4⟩ := e
  exact ⟨⟨v, h1, h F w v h3⟩, k.2 F w g _ h4⟩⟩
theorem LeD.nils {sz : Nat} {α : Type} {e : α → List D} {z : α} : LeD .nils (.sl sz e z []) := fun F w v h => by
  simp only [DR] at h ⊢; exact .inl ⟨⟨_, h⟩, trivial⟩
theorem LeD.agg {xs ys : List D} (h : LeL xs ys) : LeD (.agg xs) (.agg ys) := fun F w v k => by
  simp only [DR] at k ⊢
  obtain ⟨arr, e, hl, k⟩ := k
  exact ⟨arr, e, hl.trans h.1, h.2 F w _ _ k⟩
theorem LeD.tup {xs ys : List D} (h : LeT xs ys) : LeD (.tup xs) (.tup ys) := fun F w v k => by
  simp only [DR] at k ⊢
  obtain ⟨arr, e, hl, k⟩ := k
  exact ⟨arr, e, hl.trans h.1, h.2 F w _ _ k⟩
theorem LeD.ptr {xs ys : List D} (h : LeL xs ys) (o : Nat) : LeD (.ptr xs o) (.ptr ys o) := fun F w v k => by
  simp only [DR] at k ⊢
  obtain ⟨b, off, arr, ty, fz, e, hb, hh, k⟩ := k
  exact ⟨b, off, arr, ty, fz, e, hb, hh, h.2 F w _ _ k⟩
theorem LeD.fn {f : FuncId} {xs ys : List D} (h : LeL xs ys) : LeD (.fn f xs) (.fn f ys) := fun F w v k => by
  simp only [DR] at k ⊢
  obtain ⟨arr, e, hl, k⟩ := k
  exact ⟨arr, e, hl.trans h.1, h.2 F w _ _ k⟩
/-- The same elements, in another list. -/
theorem LeD.sl {sz : Nat} {α β : Type} {e : α → List D} {z : α} {l : List α} {e' : β → List D} {z' : β} {l' : List β} (hl : l.length = l'.length) (h : ∀ (i : Nat) (a : α) (b : β), l[i]? = some a → l'[i]? = some b → (e' b).length = (e a).length ∧ LeL (e a) (e' b)) : LeD (.sl sz e z l) (.sl sz e' z' l') := fun F w v k => by
  simp only [DR] at k ⊢
  rcases k with ⟨h0, rfl⟩ | ⟨b, off, cap, arr, ty, fz, ev, hc, hb, hh, k⟩
  · exact .inl ⟨h0, by simpa using hl.symm⟩
  · refine .inr ⟨b, off, cap, arr, ty, fz, by rw [← hl]; exact ev, by omega, hb, hh, fun i c hi => ?_⟩
    have hlt : i < l.length := by have := (List.getElem?_eq_some_iff.1 hi).1; omega
    obtain ⟨g1, g2⟩ := k i _ (List.getElem?_eq_getElem hlt)
    obtain ⟨q1, q2⟩ := h i _ c (List.getElem?_eq_getElem hlt) hi
    exact ⟨q1.trans g1, q2.2 F w _ _ g2⟩

/-- A row out of a list of rows. -/
def nth {α : Type 1} (d : α) : List α → Nat → α
  | [], _ => d
  | r :: _, 0 => r
  | _ :: rs, i + 1 => nth d rs i
theorem nth_of {α : Type 1} {d : α} : ∀ {l : List α} {i : Nat} {a : α}, l[i]? = some a → nth d l i = a
  | [], i, a, h => by simp at h
  | r :: rs, 0, a, h => by simpa [nth] using h
  | r :: rs, i + 1, a, h => by simp at h; simp [nth, nth_of h]
def iota : Nat → Nat → List Nat
  | 0, _ => []
  | n + 1, i => i :: iota n (i + 1)
theorem iota_get : ∀ {n i j : Nat}, j < n → (iota n i)[j]? = some (i + j)
  | n + 1, i, 0, _ => by simp [iota]
  | n + 1, i, j + 1, h => by simp only [iota, List.getElem?_cons_succ]; rw [iota_get (by omega)]; congr 1; omega
theorem iota_len : ∀ (n i : Nat), (iota n i).length = n
  | 0, i => rfl
  | n + 1, i => by simp [iota, iota_len n]

theorem LeR.spec {sz : Nat} {α : Type} {e : α → List D} : ∀ {rows : List (List D)} {l : List α}, LeR sz rows e l → rows.length = l.length ∧ ∀ (i : Nat) (r : List D) (a : α), rows[i]? = some r → l[i]? = some a → r.length = sz ∧ LeL r (e a)
  | rows, [], h => by simp only [LeR] at h; subst h; simp
  | rows, a :: l, h => by
    simp only [LeR] at h
    obtain ⟨r, rest, rfl, h1, h2, h3⟩ := h
    obtain ⟨g1, g2⟩ := LeR.spec h3
    refine ⟨by simp [g1], fun i r' a' h4 h5 => ?_⟩
    cases i with
    | zero => simp at h4 h5; subst h4 h5; exact ⟨h1, h2⟩
    | succ i => simp at h4 h5; exact g2 i r' a' h4 h5
theorem LeR.nil {sz : Nat} {α : Type} {e : α → List D} : LeR sz [] e [] := rfl
theorem LeR.cons {sz : Nat} {α : Type} {e : α → List D} {r : List D} {rest : List (List D)} {a : α} {l : List α} (h1 : r.length = sz) (h2 : LeL r (e a)) (h3 : LeR sz rest e l) : LeR sz (r :: rest) e (a :: l) := ⟨r, rest, rfl, h1, h2, h3⟩
/-- A literal as a list. -/
theorem LeD.lit {sz n : Nat} {α : Type} {e : α → List D} {z : α} {rows : List (List D)} {l : List α} (hn : rows.length = n) (h : LeR sz rows e l) : LeD (.sl sz (nth [] rows) 0 (iota n 0)) (.sl sz e z l) := by
  obtain ⟨h1, h2⟩ := h.spec
  refine LeD.sl (by rw [iota_len]; omega) fun i a b h3 h4 => ?_
  have hlt : i < n := by have := (List.getElem?_eq_some_iff.1 h3).1; rwa [iota_len] at this
  rw [iota_get hlt] at h3
  simp only [Option.some.injEq, Nat.zero_add] at h3
  subst h3
  have hr := List.getElem?_eq_getElem (show i < rows.length by omega)
  obtain ⟨q1, q2⟩ := h2 i _ b hr h4
  rw [nth_of hr]
  exact ⟨q2.1.symm, q2⟩

/-! ## One step -/

def gd (all : Array Oper) (s : St) (o : Oper) : Option Bool :=
  match o.guard with
  | none => some true
  | some (g, want) => match (all[g]?).bind (·.dst) with
    | some d => match s.tmps d with
      | .d (.bool b) => some (b == want)
      | .d (.tup _) => some false
      | _ => none
    | none => none

theorem gd_sound {io : Keys} {F : Nat → Prop} {s : St} {a : Act} {w : World} {all : Array Oper} {o : Oper} (ht : ∀ t ∈ o.looksAt all, VR io F w (s.tmps t) (a.tmps.getD t undef)) {r : Bool} (h : gd all s o = some r) : Region.wanted o (yielded all a.tmps) = r := by
  unfold gd at h
  unfold Region.wanted
  split at h
  · rename_i hg
    simp only [Option.some.injEq] at h
    rw [hg, ← h]
  · rename_i g want hg
    split at h
    · rename_i d hd
      have htd := ht d (by unfold Oper.looksAt; rw [List.mem_append]; right; simp [hg, hd])
      split at h
      · rename_i b hb
        simp only [Option.some.injEq] at h
        rw [hb] at htd
        simp only [VR, DR] at htd
        have hget : a.tmps[d]? = some (.bool b) := by
          rw [Array.getD_eq_getD_getElem?] at htd
          cases hq : a.tmps[d]? with
          | none => rw [hq] at htd; cases htd
          | some v => rw [hq] at htd; simp at htd; rw [htd]
        rw [hg]
        simp only [yielded, hd, Option.bind_some, hget]
        rw [← h]
        cases b <;> cases want <;> rfl
      · rename_i cs hb
        simp only [Option.some.injEq] at h
        rw [hb] at htd
        simp only [VR, DR] at htd
        obtain ⟨arr, htd, _⟩ := htd
        have hget : a.tmps[d]? = none ∨ a.tmps[d]? = some (.tuple arr) := by
          rw [Array.getD_eq_getD_getElem?] at htd
          cases hq : a.tmps[d]? with
          | none => exact .inl rfl
          | some v => rw [hq] at htd; simp at htd; rw [htd]; exact .inr rfl
        rw [hg, ← h]
        rcases hget with hget | hget <;> simp only [yielded, hd, Option.bind_some, hget] <;> rfl
      · cases h
    · cases h

def dstOk (N : Nat) : Option Tmp → Bool
  | some d => Nat.blt d N
  | none => true
theorem dstOk_sound {N : Nat} {dst : Option Tmp} (h : dstOk N dst = true) : ∀ d, dst = some d → d < N := fun d e => by
  subst e; simpa [dstOk, Nat.blt_eq] using h

/-- An operation comes up: carried out, or passed over. -/
def opWp (P : Program) (all : Array Oper) (o : Oper) (a : Act) (w : World) (K : Act → World → Prop) (Q : Exit → Act → World → Prop) : Prop :=
  if Region.wanted o (yielded all a.tmps) then o.wp P a w K Q ∨ (o.asks P a w ∧ LetsOut Q) else K (a.put o.dst Go.undef) w

theorem opWp_value {P : Program} {all : Array Oper} {o : Oper} {a : Act} {w w' : World} {K : Act → World → Prop} {Q : Exit → Act → World → Prop} {v : Value} (hw : Region.wanted o (yielded all a.tmps) = true) (h : (execOp a.eval o).run P w = .ok (.value v) w') (hK : K (a.put o.dst v) w') : opWp P all o a w K Q := by
  unfold opWp; rw [if_pos hw]; left
  unfold Oper.wp; rw [h]; exact hK

theorem opWp_skip {P : Program} {all : Array Oper} {o : Oper} {a : Act} {w w' : World} {K : Act → World → Prop} {Q : Exit → Act → World → Prop} (hw : Region.wanted o (yielded all a.tmps) = true) (h : (execOp a.eval o).run P w = .ok .skip w') (hK : K (a.put o.dst Go.undef) w') : opWp P all o a w K Q := by
  unfold opWp; rw [if_pos hw]; left
  unfold Oper.wp; rw [h]; exact hK

theorem VR.gone {io : Keys} {F : Nat → Prop} {w : World} : VR io F w (.d (.tup [])) Go.undef := by simp only [VR, DR, DRT]; exact ⟨#[], rfl, rfl, trivial⟩
theorem VR.undef {io : Keys} {F : Nat → Prop} {w : World} (v : Value) : VR io F w (.d .undef) v := by simp only [VR, DR]

/-- What an operation yields that leaves the memory there is as it is (in new memory, or in that of what it looks at). -/
def M1 (X : Ctx) (all : Array Oper) (s : St) (o : Oper) (x : V) : Prop :=
  ∀ io F a w, (∀ t ∈ o.looksAt all, VR (s.keys io) F w (s.tmps t) (a.tmps.getD t undef)) → (∀ k b, s.blk k = some b → BR X.A X.w0.heap.size (s.keys io) F w k b) → (∀ b, F b → b < w.heap.size) → ∀ (K : Act → World → Prop) (Q : Exit → Act → World → Prop),
    (∀ F' w' v, Below w.heap.size w w' → (∀ b, F b → F' b) → (∀ b, F' b → F b ∨ (w.heap.size ≤ b ∧ b < w'.heap.size)) → VR (s.keys io) F' w' x v → K (a.put o.dst v) w') → opWp X.P all o a w K Q

/-- What an operation makes of the state. -/
def E1 (X : Ctx) (all : Array Oper) (s : St) (o : Oper) (s' : St) : Prop :=
  ∀ io F a w, SR X io F s a w → ∀ (K : Act → World → Prop) (Q : Exit → Act → World → Prop), (∀ io' F' a' w', SR X io' F' s' a' w' → K a' w') → opWp X.P all o a w K Q

theorem M1.e1 {X : Ctx} {all : Array Oper} {s : St} {o : Oper} {x : V} (h : M1 X all s o x) (hd : dstOk X.N o.dst = true) : E1 X all s o (s.put o.dst x) := fun io F a w hs K Q hK =>
  h io F a w (fun t _ => hs.tm t) hs.bl (fun b hb => (hs.ff b hb).1) K Q fun F' w' v h1 h2 h3 h4 => hK io F' _ _ ((hs.grow h1 h2 h3).put (dstOk_sound hd) h4)

theorem M1.to {X : Ctx} {all : Array Oper} {s : St} {o : Oper} {x x' : V} (h : M1 X all s o x) (e : x = x') : M1 X all s o x' := e ▸ h

/-- Operands, out of the slots that are looked at. -/
theorem operands_of {io : Keys} {F : Nat → Prop} {s : St} {a : Act} {w : World} {all : Array Oper} {o : Oper} (h : ∀ t ∈ o.looksAt all, VR io F w (s.tmps t) (a.tmps.getD t undef)) : ∀ y ∈ o.op.operands.toList, VR io F w (s.opd y) (a.eval y) := fun y hy => by
  cases y with
  | tmp t => exact h t (by unfold Oper.looksAt; rw [List.mem_append]; left; rw [List.mem_filterMap]; exact ⟨_, hy, rfl⟩)
  | const v => simp only [St.opd, Act.eval, constV_eq, VR]; exact DR.ofV F w v
  | global g => simp only [St.opd, Act.eval, VR, DR]
  | func f => simp only [St.opd, Act.eval, VR, DR]; exact ⟨#[], rfl, rfl, by simp [DRA]⟩

theorem m_off {X : Ctx} {all : Array Oper} {s : St} {o : Oper} (h : gd all s o = some false) : M1 X all s o (.d (.tup [])) := fun io F a w ht hb hF K Q hK => by
  unfold opWp
  rw [if_neg (by rw [gd_sound ht h]; simp)]
  exact hK F w _ (Below.refl _ _) (fun _ h => h) (fun _ h => .inl h) VR.gone

/-- An operation that has no effect. -/
theorem m_quiet {X : Ctx} {T : TypeId → Option TyD} (hT : TabOk X.P T) {all : Array Oper} {s : St} {o : Oper} (m : Bool) {C : Prop} {x : V} (h : gd all s o = some true) (hq : evalQ T m s o.op = some (C, x)) (hC : C) : M1 X all s o x := fun io F a w ht hb hF K Q hK => by
  obtain ⟨v, hy, hv⟩ := evalQ_sound (P := X.P) hT o (operands_of ht) hb hq hC
  exact opWp_value (gd_sound ht h) hy (hK F w v (Below.refl _ _) (fun _ h => h) (fun _ h => .inl h) hv)

end Go.Vw
