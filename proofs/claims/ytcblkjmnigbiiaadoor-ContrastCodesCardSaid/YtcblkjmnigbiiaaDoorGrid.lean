/-
  Tables whose rows are still being written; rows of numbers that are written in place. Conditions: as each says.
-/
import Derived.Test.YtcblkjmnigbiiaaDoorRats
set_option autoImplicit false
set_option linter.unusedVariables false
namespace Go.Ab
open Go.RowKit

section
variable {X : Ctx} {io : Nat → Option Nat} {F : Nat → Prop} {s : St} {a : Act} {w : World}
/-- A block, described anew. -/
theorem SR.reblk (hs : SR X io F s a w) {k : Nat} {b b' : Blk} (hk : s.blk k = some b) (h : BR X io F w k b → BR X io F w k b') : SR X io F (s.withBlk k b') a w :=
  hs.setBlk (h (hs.bl k b hk)) fun j c hj h1 h2 h3 => hj (hs.inj j k c h1 (by rw [hk]; simp) h2 h3)
theorem VRL.toD : ∀ {ds : List D} {vs : List Value}, VRL io F w (ds.map V.d) vs → DRL F w ds vs
  | [], vs, h => by simpa only [VRL, DRL, List.map_nil] using h
  | x :: xs, vs, h => by
      simp only [List.map_cons, VRL] at h
      obtain ⟨v, rest, rfl, h0, h1, h2⟩ := h
      simp only [DRL]
      exact ⟨v, rest, rfl, h0, by simpa only [VR] using h1, VRL.toD h2⟩
end

section
variable {X : Ctx} {T : TypeId → Option TyD} {all : Array Oper} {l : List Oper} {Q : Exit → St → Prop} {s : St} {c : Code}
theorem awpL_reblk {k : Nat} {b b' : Blk} (hk : s.blk k = some b) (h : ∀ io F w, BR X io F w k b → BR X io F w k b') (K : awpL X all l Q (s.withBlk k b')) : awpL X all l Q s := fun io F a w hs => K _ _ _ _ (hs.reblk hk (h io F w))
theorem awp_reblk {k : Nat} {b b' : Blk} (hk : s.blk k = some b) (h : ∀ io F w, BR X io F w k b → BR X io F w k b') (K : awp X c Q (s.withBlk k b')) : awp X c Q s := fun io F a w hs => K _ _ _ _ (hs.reblk hk (h io F w))
theorem toBox {k : Nat} {ty : TypeId} {cells : List D} (hne : 0 < cells.length) (io : Nat → Option Nat) (F : Nat → Prop) (w : World) (h : BR X io F w k (.data ty cells)) : BR X io F w k (.box ty (cells.map V.d)) := by
  simp only [BR] at h ⊢
  rcases h with ⟨_, e⟩ | ⟨b, arr, vals, h1, h2, h3, h4, h5, h6⟩
  · rw [e] at hne; cases hne
  · exact ⟨b, arr, vals, h1, h2, h3, h4, h5, DRL.toV h6⟩
theorem toData {k : Nat} {ty : TypeId} {cells : List D} {cs : List V} (he : cs = cells.map V.d) (io : Nat → Option Nat) (F : Nat → Prop) (w : World) (h : BR X io F w k (.box ty cs)) : BR X io F w k (.data ty cells) := by
  subst he
  simp only [BR] at h ⊢
  obtain ⟨b, arr, vals, h1, h2, h3, h4, h5, h6⟩ := h
  exact .inr ⟨b, arr, vals, h1, h2, h3, h4, h5, VRL.toD h6⟩
theorem reData {k : Nat} {ty : TypeId} {cells cells' : List D} (hn : cells = [] → cells' = []) (hd : ∀ (F : Nat → Prop) (w : World) (vs : List Value), DRL F w cells vs → DRL F w cells' vs) (io : Nat → Option Nat) (F : Nat → Prop) (w : World) (h : BR X io F w k (.data ty cells)) : BR X io F w k (.data ty cells') := by
  simp only [BR] at h ⊢
  rcases h with ⟨e, e'⟩ | ⟨b, arr, vals, h1, h2, h3, h4, h5, h6⟩
  · exact .inl ⟨e, hn e'⟩
  · exact .inr ⟨b, arr, vals, h1, h2, h3, h4, h5, hd F w _ h6⟩

theorem gd_none {o : Oper} (h : o.guard = none) : gd all s o = some true := by unfold gd; rw [h]
/-- A quiet operation whose value is known. -/
theorem awpL_quiet {o : Oper} (hT : TabOk X.P T) {C : Prop} {y y' : V} (hg : gd all s o = some true) (hd : dstOk X.N o.dst = true) (hq : evalQ T s o.op = some (C, y)) (hC : C) (hy : y = y') (K : awpL X all l Q (s.put o.dst y')) : awpL X all (o :: l) Q s := by
  subst hy
  intro io F a w hs
  obtain ⟨v, h1, h2⟩ := evalQ_sound hT hs o hq hC
  exact wpList_cons (opWp_value (gd_sound hs hg) h1 (K _ _ _ _ (hs.put (dstOk_sound hd) h2)))
end
theorem Mono1.toQ {P : Program} {T : TypeId → Option TyD} {all : Array Oper} {s : St} {o : Oper} {C : Prop} {x x' : V} (h : gd all s o = some true) (hq : evalQ T s o.op = some (C, x)) (hC : C) (e : x = x') : Mono1 P T all s o x' := by
  subst e; exact .quiet h ((evalQF_eq _ _ _).trans hq) hC

theorem Ret.weak {P : Program} {f : FuncId} {ds ds' : List D} {R : D → Prop} (h : Ret P f ds R) (hd : ∀ (F : Nat → Prop) (w : World) (vs : List Value), DRT F w ds' vs → DRT F w ds vs) : Ret P f ds' R :=
  ⟨h.enters, fun F w vs hF hv => h.run F w vs hF (hd F w _ hv)⟩
theorem DRL.normL {F : Nat → Prop} {w : World} : ∀ {xs : List D} {vs : List Value}, DRL F w xs vs → DRL F w (xs.map D.normC) vs
  | [], vs, h => by simpa only [DRL, List.map_nil] using h
  | x :: xs, vs, h => by
      simp only [DRL] at h
      obtain ⟨v, rest, rfl, h0, h1, h2⟩ := h
      simp only [List.map_cons, DRL]
      exact ⟨v, rest, rfl, h0, DR.normC h1, DRL.normL h2⟩
theorem sl_norm {F : Nat → Prop} {w : World} {n : Nat} {cs : List D} {v : Value} (h : DR F w (.sl n cs) v) : DR F w (.sl n (cs.map D.normC)) v := by
  simp only [DR] at h ⊢
  rcases h with ⟨h1, h2, h3⟩ | ⟨b, off, cap, arr, ty, fz, vals, e, hc, hb, hh, hr, h⟩
  · exact .inl ⟨h1, h2, by rw [h3]; rfl⟩
  · exact .inr ⟨b, off, cap, arr, ty, fz, vals, e, hc, hb, hh, hr, h.normL⟩
theorem two_norm {P : Program} {f : FuncId} {x : D} {n : Nat} {cs : List D} {R : D → Prop} (h : Ret P f [x, .sl n (cs.map D.normC)] R) : Ret P f [x, .sl n cs] R := h.weak fun F w vs hv => by
  simp only [DRT] at hv ⊢
  obtain ⟨v, rest, rfl, h1, v2, rest2, rfl, h2, h3⟩ := hv
  exact ⟨v, _, rfl, h1, v2, _, rfl, sl_norm h2, h3⟩
theorem splice_at {α : Type} (cs : List α) (o : Nat) (x d : α) (h : o < cs.length) : (splice cs o [x]).getD o d = x := by
  unfold splice
  simp [List.getD, List.getElem?_append_right, Nat.min_eq_left (Nat.le_of_lt h)]
theorem splice_set {α : Type} (cs : List α) (o : Nat) (x : α) (h : o < cs.length) : splice cs o [x] = cs.set o x := by
  unfold splice
  rw [List.set_eq_take_append_cons_drop, if_pos h]; rfl
theorem splice_flat (l : List R3) (i : Nat) (r : R3) (h : i < l.length) : splice (l.flatMap rC) (i * 3) (rC r) = (l.set i r).flatMap rC := by
  unfold splice
  have h1 : (l.flatMap rC).take (i * 3) = (l.take i).flatMap rC := by
    have e : l.flatMap rC = (l.take i).flatMap rC ++ (l.drop i).flatMap rC := by rw [← List.flatMap_append, List.take_append_drop]
    have e2 : i * 3 = ((l.take i).flatMap rC).length := by rw [flat_len, List.length_take, Nat.min_eq_left (Nat.le_of_lt h)]
    rw [e, e2, List.take_append_of_le_length (Nat.le_refl _), List.take_length]
  have h2 : i * 3 + (rC r).length = (i + 1) * 3 := by simp [rC]; omega
  rw [h1, h2, flat_drop, List.set_eq_take_append_cons_drop, if_pos h]
  simp
theorem frzL_map (k : Nat) (cells : List D) : ∀ l : List V, V.frzL k cells l = l.map (V.frz k cells)
  | [] => rfl
  | x :: xs => by rw [V.frzL, frzL_map k cells xs]; rfl
theorem frzL_row (k : Nat) (cells : List D) (cs : List D) (o n : Nat) (ty : TypeId) (sz : Nat) (h : o < cs.length) : V.frzL k cells (splice (cs.map V.d) o [V.own k n ty sz]) = (cs.set o (.sl n (cells.take (n * sz)))).map V.d := by
  rw [frzL_map, splice_set _ _ _ (by simpa using h), List.map_set, List.map_set]
  congr 1
  · rw [List.map_map]; congr 1
  · simp [V.frz]

/-- The zeros of a new row. -/
theorem zeros_norm (n : Nat) (F : Nat → Prop) (w : World) (vs : List Value) (h : DRL F w (List.replicate n [D.bool false, D.nils, D.nils]).flatten vs) : DRL F w ((List.replicate n ((false, [], []) : R3)).flatMap rC) vs := by
  induction n generalizing vs with
  | zero => simpa using h
  | succ n ih =>
    rw [List.replicate_succ, List.flatten_cons] at h
    rw [List.replicate_succ, List.flatMap_cons]
    simp only [List.cons_append, List.nil_append, DRL, DR] at h
    obtain ⟨v1, r1, rfl, h1, h1', v2, r2, rfl, h2, h2', v3, r3, rfl, h3, h3', h4⟩ := h
    simp only [rC, List.cons_append, List.nil_append, DRL]
    exact ⟨v1, _, rfl, h1, by simpa only [DR] using h1', v2, _, rfl, h2, by simp only [u32s, DR]; exact .inl ⟨h2', rfl, rfl⟩, v3, _, rfl, h3, by simp only [u32s, DR]; exact .inl ⟨h3', rfl, rfl⟩, ih _ h4⟩
section
variable {X : Ctx} {T : TypeId → Option TyD} {all : Array Oper} {Q : Exit → St → Prop} {s : St} {o : Oper} {rest : List Oper} {dst : Option Tmp} {ty : TypeId} {pos : String} {after : Array Edge} {g : Option (Nat × Bool)}
/-- A number of a row of the call's own is written. -/
theorem awpL_str {bt : TypeId} {bx by' : Operand} (hT : TabOk X.P T) {l : List R3} {i j k : Nat} {e : TypeId} {b : Bool} {m n : List Nat} {s1 : St}
    (h : evalS T X.N all s ⟨none, .store bt bx by', ty, pos, after, g⟩ = some (i * 3 + 3 ≤ (l.flatMap rC).length ∧ [D.bool b, u32s m, u32s n].length = 3, s1.withBlk k (.data e (splice (l.flatMap rC) (i * 3) [D.bool b, u32s m, u32s n]))))
    (hi : i = j) (hj : j < l.length) (K : awpL X all rest Q (s1.withBlk k (.data e ((l.set j (b, m, n)).flatMap rC)))) : awpL X all (⟨none, .store bt bx by', ty, pos, after, g⟩ :: rest) Q s := by
  subst hi
  refine awpL_step hT h ⟨by rw [flat_len]; omega, rfl⟩ ?_
  have : [D.bool b, u32s m, u32s n] = rC (b, m, n) := rfl
  rw [this, splice_flat _ _ _ hj]
  exact K
/-- A new table of things of one cell. -/
theorem awpL_mkm {bt : TypeId} {bx by' : Operand} (hT : TabOk X.P T) {n k sz : Nat} {a : Int} {e : TypeId} {z : D} {s1 : St} {d : Option Tmp}
    (h : evalS T X.N all s ⟨dst, .makeSlice bt bx by', ty, pos, after, g⟩ = some (0 ≤ a ∧ a ≤ a ∧ a ≤ (maxLen : Nat) ∧ a * (sz : Nat) ≤ 140737488355328, (s1.new k (.data e (List.replicate a.toNat [z]).flatten)).put d (.own k a.toNat e 1)))
    (h0 : 0 ≤ a) (h1 : a < 100000000000) (hsz : sz ≤ 100) (hn : a.toNat = n) (K : awpL X all rest Q ((s1.new k (.data e (List.replicate n z))).put d (.own k n e 1))) : awpL X all (⟨dst, .makeSlice bt bx by', ty, pos, after, g⟩ :: rest) Q s := by
  subst hn
  refine awpL_step hT h ⟨h0, Int.le_refl _, by simp [maxLen]; omega, ?_⟩ ?_
  · have : a * (sz : Int) ≤ 100000000000 * 100 := Int.mul_le_mul (by omega) (by omega) (by omega) (by omega)
    omega
  have : (List.replicate a.toNat [z]).flatten = List.replicate a.toNat z := by
    generalize a.toNat = m
    induction m with
    | zero => rfl
    | succ m ih => rw [List.replicate_succ, List.flatten_cons, ih, List.replicate_succ]; rfl
  rw [this]
  exact K
/-- A new row of numbers. -/
theorem awpL_mkr {bt : TypeId} {bx by' : Operand} (hT : TabOk X.P T) {n k sz : Nat} {a : Int} {e : TypeId} {s1 : St} {d : Option Tmp}
    (h : evalS T X.N all s ⟨dst, .makeSlice bt bx by', ty, pos, after, g⟩ = some (0 ≤ a ∧ a ≤ a ∧ a ≤ (maxLen : Nat) ∧ a * (sz : Nat) ≤ 140737488355328, (s1.new k (.data e (List.replicate a.toNat [D.bool false, D.nils, D.nils]).flatten)).put d (.own k a.toNat e 3)))
    (h0 : 0 ≤ a) (h1 : a < 100000000000) (hsz : sz ≤ 100) (hn : a.toNat = n) (K : awpL X all rest Q (((s1.new k (.data e (List.replicate a.toNat [D.bool false, D.nils, D.nils]).flatten)).put d (.own k n e 3)).withBlk k (.data e ((List.replicate n ((false, [], []) : R3)).flatMap rC)))) : awpL X all (⟨dst, .makeSlice bt bx by', ty, pos, after, g⟩ :: rest) Q s := by
  subst hn
  refine awpL_step hT h ⟨h0, Int.le_refl _, by simp [maxLen]; omega, ?_⟩ ?_
  · have : a * (sz : Int) ≤ 100000000000 * 100 := Int.mul_le_mul (by omega) (by omega) (by omega) (by omega)
    omega
  refine awpL_reblk (k := k) (b := .data e (List.replicate a.toNat [D.bool false, D.nils, D.nils]).flatten) ?_ (reData ?_ fun F w vs hv => zeros_norm _ F w vs hv) K
  · cases d <;> exact withBlk_same
  · intro he
    cases hm : a.toNat with
    | zero => rfl
    | succ m => rw [hm, List.replicate_succ, List.flatten_cons] at he; cases he
end
theorem take_set_snoc {α : Type} (l : List α) (j : Nat) (x : α) (h : j < l.length) : (l.set j x).take (j + 1) = l.take j ++ [x] := by
  rw [List.take_add_one]
  simp [h, List.take_set_of_le]
end Go.Ab
