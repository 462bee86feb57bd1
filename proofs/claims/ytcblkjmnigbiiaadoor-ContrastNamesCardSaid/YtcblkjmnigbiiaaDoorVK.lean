/-
  append as a step; slice literals. Conditions: the table of types is the program's.
-/
import Derived.Test.YtcblkjmnigbiiaaDoorVJ
set_option linter.unusedSimpArgs false
set_option linter.unusedVariables false
namespace Go.Vw
open Go.RowKit

/-- A value is a slice with the elements of l. -/
def SrcOk (X : Ctx) (s : St) (y : V) (sz : Nat) {α : Type} (e : α → List D) (l : List α) : Prop :=
  ∀ io F a w v, SR X io F s a w → VR (s.keys io) F w y v → SrcT F w v sz e l

theorem src_data {X : Ctx} {s : St} {y : D} {sz : Nat} {α : Type} {e : α → List D} {z : α} {l : List α} (h : LeD y (.sl sz e z l)) : SrcOk X s (.d y) sz e l := fun io F a w v hs hv =>
  src_of_data (z := z) (h F w v (by simpa only [VR] using hv))
theorem src_own {X : Ctx} {s : St} {k o n : Nat} {ty ty' : TypeId} {sz : Nat} {α : Type} {e : α → List D} {z : α} {l : List α} (hk : s.blk k = some (.data ty' sz e z l)) : SrcOk X s (.own k o n ty sz) sz e (cut o n l) := fun io F a w v hs hv => by
  simp only [VR] at hv
  have hb := hs.bl k _ hk
  simp only [BR] at hb
  rcases hv with ⟨h0, rfl, rfl, rfl⟩ | ⟨b, cap, arr, h1, rfl, h3, h4, h5, h6, h7⟩
  · exact .inl ⟨⟨_, rfl⟩, by rw [cut_eq]; simp⟩
  · rcases hb with ⟨g, _⟩ | ⟨b', arr', g1, _, _, g4, g5⟩
    · rw [g] at h1; cases h1
    · rw [h1] at g1; cases g1
      have hln : (s.keys io).ln k = l.length := ln_of hk
      have hz : (cut o n l).length = n := by rw [cut_eq]; simp; omega
      refine .inr ⟨b, o * sz, cap, arr', ty', (0, 0), by rw [hz], g4, fun i a hi => ?_⟩
      rw [cut_eq, List.getElem?_take] at hi
      split at hi
      · rw [List.getElem?_drop] at hi
        have := g5 _ a hi
        refine ⟨this.1, ?_⟩
        have h2 := this.2
        rwa [Nat.zero_add, Nat.add_mul] at h2
      · cases hi
theorem src_all {X : Ctx} {s : St} {k n : Nat} {ty ty' : TypeId} {sz : Nat} {α : Type} {e : α → List D} {z : α} {l : List α} (hk : s.blk k = some (.data ty' sz e z l)) (hn : n = l.length) : SrcOk X s (.own k 0 n ty sz) sz e l := fun io F a w v hs hv => by
  have := src_own hk io F a w v hs hv
  subst hn
  simpa using this

theorem run_append {P : Program} {ev : Operand → Value} {dst : Option Tmp} {y z : Operand} {t ty : TypeId} {pos : String} {after : Array Edge} {g : Option (Nat × Bool)} {w w' : World} {v : Value} (hv : (Builtin.append_ #[t, t] ty #[ev y, ev z]).run P w = .ok v w') : (execOp ev ⟨dst, .call ⟨.builtin .append, #[y, z], #[t, t]⟩, ty, pos, after, g⟩).run P w = .ok (.value v) w' := by
  simp [execOp, resolve, invoke, builtin, hv]

section
variable {X : Ctx} {T : TypeId → Option TyD} (hT : TabOk X.P T) {all : Array Oper} {s : St} {x y : Operand} {t ty e : TypeId} {pos : String} {after : Array Edge} {g : Option (Nat × Bool)} {d : Tmp} {td ed : TyD} {k n : Nat} {α : Type} {en : α → List D} {z : α} {l l2 : List α}
  (hg : gd all s ⟨some d, .call ⟨.builtin .append, #[x, y], #[t, t]⟩, ty, pos, after, g⟩ = some true) (hd : dstOk X.N (some d) = true) (ht : T t = some td) (hds : td.desc = .slice e) (he : T e = some ed)
include hT hg hd ht hds he

theorem e_append (hK : X.K.contains k = false) (hx : s.opd x = .own k 0 n e ed.size) (hk : s.blk k = some (.data e ed.size en z l)) (hn : n = l.length) (hy : SrcOk X s (s.opd y) ed.size en l2) (hz : zeroOk ed = true) (hb : l.length + l2.length ≤ 9223372036854775807 ∧ (l.length + l2.length) * ed.bytes ≤ 140737488355328) :
    E1 X all s ⟨some d, .call ⟨.builtin .append, #[x, y], #[t, t]⟩, ty, pos, after, g⟩ ((s.new k (.data e ed.size en z (l ++ l2))).put (some d) (.own k 0 (l ++ l2).length e ed.size)) := by
  intro io F a w hs K Q hQ
  have hv := hs.opd x
  rw [hx] at hv
  obtain ⟨v', w', io', h1, h2, h3⟩ := append_own (ty := ty) hT hs ht hds he (notMem hK) hk hv hn (hy io F a w _ hs (hs.opd y)) hz (by unfold maxLen; omega) hb.2
  exact opWp_value (gd_sound (fun t _ => hs.tm t) hg) (run_append h1) (hQ io' F _ _ (h2.put (dstOk_sound hd) h3))

theorem e_appnil (hK : X.K.contains d = false) (hx : s.opd x = .d .nils) (hy : SrcOk X s (s.opd y) ed.size en l2) (hz : zeroOk ed = true) (hb : l2.length ≤ 9223372036854775807 ∧ l2.length * ed.bytes ≤ 140737488355328) :
    E1 X all s ⟨some d, .call ⟨.builtin .append, #[x, y], #[t, t]⟩, ty, pos, after, g⟩ (((s.new d (.data e ed.size en z [])).new d (.data e ed.size en z l2)).put (some d) (.own d 0 l2.length e ed.size)) := by
  intro io F a w hs K Q hQ
  have hv := hs.opd x
  rw [hx] at hv
  simp only [VR, DR] at hv
  have hs0 : SR X (updio io d none) F (s.new d (.data e ed.size en z [])) a w := SR.setBlk (hs.kill d none (notMem hK)) (by rw [sub_ln_same]; exact Nat.zero_le _) (by simp only [BR]; exact .inl ⟨updio_same _ _ _, trivial⟩) fun j c _ _ _ h => by rw [updio_same] at h; cases h
  obtain ⟨v', w', io', h1, h2, h3⟩ := append_own (ty := ty) (k := d) (n := 0) (l := []) (z := z) (v := a.eval x) hT hs0 ht hds he (notMem hK) withBlk_same (by simp only [VR]; exact .inl ⟨updio_same _ _ _, hv, trivial, trivial⟩) rfl (hy io F a w _ hs (hs.opd y)) hz (by unfold maxLen; simpa using hb.1) (by simpa using hb.2)
  exact opWp_value (gd_sound (fun t _ => hs.tm t) hg) (run_append h1) (hQ io' F _ _ (h2.put (dstOk_sound hd) h3))
end

/-! ## Literals -/

def grp (sz : Nat) : Nat → List D → Option (List (List D))
  | 0, _ => some []
  | n + 1, ds => match segD ds 0 sz, grp sz n (ds.drop sz) with | some r, some rs => some (r :: rs) | _, _ => none
theorem grp_spec {sz : Nat} : ∀ {n : Nat} {ds : List D} {rows : List (List D)}, grp sz n ds = some rows → rows.length = n ∧ ∀ (i : Nat) (r : List D), rows[i]? = some r → r.length = sz ∧ ∀ j, j < sz → r[j]? = ds[i * sz + j]?
  | 0, ds, rows, h => by simp [grp] at h; subst h; simp
  | n + 1, ds, rows, h => by
    simp only [grp] at h
    split at h
    · rename_i r rs h1 h2
      simp only [Option.some.injEq] at h; subst h
      obtain ⟨s1, s2⟩ := segD_spec h1
      obtain ⟨g1, g2⟩ := grp_spec h2
      refine ⟨by simp [g1], fun i r' hi => ?_⟩
      cases i with
      | zero =>
        simp at hi; subst hi
        refine ⟨s1, fun j hj => ?_⟩
        have := s2 j hj
        rw [Nat.zero_mul]; exact this.symm
      | succ i =>
        simp at hi
        obtain ⟨q1, q2⟩ := g2 i r' hi
        refine ⟨q1, fun j hj => ?_⟩
        rw [q2 j hj, List.getElem?_drop]
        congr 1; rw [Nat.add_mul]; omega
    · cases h

/-- A slice literal: its rows of cells. -/
def evalB (T : TypeId → Option TyD) (s : St) : Op → Option (TypeId × Nat × Nat × List (List D))
  | .buildSlice t len parts => match T t with
    | some td => match td.desc with
      | .slice e => match T e with
        | some ed => match zeroOk ed && Nat.ble (len * ed.size) 16777216 with
          | true => match fillD (fun i => some (i * ed.size, ed.size)) ((List.replicate len (D.ofV ed.zero).cells).flatten.map V.d) (parts.toList.map fun p => (p.1, s.opd p.2)) with
            | some cells => match allD cells with
              | some ds => match grp ed.size len ds with
                | some rows => some (e, ed.size, len, rows)
                | none => none
              | none => none
            | none => none
          | false => none
        | none => none
      | _ => none
    | none => none
  | _ => none

theorem evalB_sound {P : Program} {T : TypeId → Option TyD} (hT : TabOk P T) {io : Keys} {F : Nat → Prop} {s : St} {w : World} {ev : Operand → Value} (o : Oper) (ho : ∀ y ∈ o.op.operands.toList, VR io F w (s.opd y) (ev y)) {e : TypeId} {sz len : Nat} {rows : List (List D)} (h : evalB T s o.op = some (e, sz, len, rows)) :
    rows.length = len ∧ ∃ arr, (execOp ev o).run P w = .ok (.value (.slice (some ⟨w.heap.size, 0, none⟩) len len)) (w.alloc (.cells arr e)) ∧ arr.size = len * sz ∧ len ≤ 16777216 ∧ ∀ (i : Nat) (r : List D), rows[i]? = some r → r.length = sz ∧ DRA F w (fun j => arr[j]?) (i * sz) r := by
  obtain ⟨dst, op, ty, pos, after, guard⟩ := o
  cases op <;> simp only [evalB, Op.operands] at h ho <;> try (cases h; done)
  case buildSlice t n parts =>
    split at h
    · rename_i td htd
      split at h
      · rename_i e' he
        split at h
        · rename_i ed hed
          split at h
          · rename_i hok
            simp only [Bool.and_eq_true] at hok
            obtain ⟨z1, z2, z3, z4⟩ := zeroOk_sound (F := F) (w := w) hok.1
            have hle := Nat.le_of_ble_eq_true hok.2
            split at h
            · rename_i cells hf
              split at h
              · rename_i ds hds
                split at h
                · rename_i rows' hrows
                  simp only [Option.some.injEq, Prod.mk.injEq] at h; obtain ⟨rfl, rfl, rfl, rfl⟩ := h
                  obtain ⟨g1, g2⟩ := grp_spec hrows
                  refine ⟨g1, ?_⟩
                  have hu := (hT _ _ htd).runU w
                  rw [he] at hu
                  have hzero : VRL io F w ((List.replicate n (D.ofV ed.zero).cells).flatten.map V.d) ((List.replicate n ed.zero.cells.toList).flatten.toArray).toList := by
                    refine ⟨by simp [z1, z2], ?_⟩
                    rw [VRA_iff]
                    intro i c hi
                    rw [List.getElem?_map, Option.map_eq_some_iff] at hi
                    obtain ⟨x, hx, rfl⟩ := hi
                    have hlt : i < n * ed.size := by have := (List.getElem?_eq_some_iff.1 hx).1; simpa [z2] using this
                    have hgen : ∀ (m : Nat) (l : List D) (i : Nat), i < m * l.length → (List.replicate m l).flatten[i]? = l[i % l.length]? := by
                      intro m l
                      induction m with
                      | zero => intro i h; simp at h
                      | succ m ih =>
                        intro i h
                        simp only [List.replicate_succ, List.flatten_cons]
                        by_cases h' : i < l.length
                        · rw [List.getElem?_append_left h', Nat.mod_eq_of_lt h']
                        · rw [List.getElem?_append_right (by omega), ih (i - l.length) (by rw [Nat.succ_mul] at h; omega), ← Nat.mod_eq_sub_mod (by omega)]
                    rw [hgen n _ i (by rw [z2]; exact hlt), z2] at hx
                    obtain ⟨v, q1, q2, q3⟩ := DRA_iff.1 z4 _ x hx
                    refine ⟨v, ?_, q2, by simpa only [VR] using q3⟩
                    simp only [Nat.zero_add] at q1 ⊢
                    rw [List.toList_toArray, flat_get _ n i (by simpa [z1] using hlt)]
                    simpa [z1] using q1
                  obtain ⟨cells', hc1, hc2⟩ := fill_sound (place' := fun i => some (i * ed.size, ed.size)) (fun i p h => h) _ (parts.map fun (i, x) => (i, ev x)).toList _ _ _ hf hzero (by simp) (fun j i x v i' hp hq => by
                    simp only [List.getElem?_map, Array.toList_map, Option.map_eq_some_iff] at hp hq
                    obtain ⟨p, hp1, hp2⟩ := hp
                    obtain ⟨q, hq1, hq2⟩ := hq
                    rw [hp1] at hq1
                    cases hq1
                    cases hp2
                    cases hq2
                    exact ⟨rfl, ho _ (by simp only [List.mem_map]; exact ⟨p, List.mem_of_getElem? hp1, rfl⟩)⟩)
                  have hsize : cells'.size = n * ed.size := by
                    have : ∀ (ps : List (Nat × V)) (cs cs' : List V), fillD (fun i => some (i * ed.size, ed.size)) cs ps = some cs' → cs'.length = cs.length := by
                      intro ps
                      induction ps with
                      | nil => intro cs cs' h; simp [fillD] at h; rw [h]
                      | cons p ps ih =>
                        intro cs cs' h
                        simp only [fillD] at h
                        split at h
                        · rename_i hb
                          simp only [Bool.and_eq_true] at hb
                          have e1 := Nat.eq_of_beq_eq_true hb.1.2
                          have e2 := Nat.le_of_ble_eq_true hb.2
                          rw [ih _ _ h]
                          simp; omega
                        · cases h
                    have h1 := this _ _ _ hf
                    have h2 := hc2.1
                    simp [z2] at h1 h2
                    omega
                  have hrun : (Instr.buildSlice t n (parts.map fun (i, x) => (i, ev x))).run P w = .ok (.slice (some ⟨w.heap.size, 0, none⟩) n n) (w.alloc (.cells cells' e')) := by
                    simp only [Instr.buildSlice, Sem.run_bind, hu, Result.andThen_ok, (hT _ _ hed).runS]
                    rw [if_neg (by omega)]
                    by_cases hz : n * ed.size = 0
                    · have hl0 : n = 0 := by
                        rcases Nat.mul_eq_zero.1 hz with h | h
                        · exact h
                        · omega
                      subst hl0
                      simp only [Nat.zero_mul, if_true, Sem.run_bind, Sem.run_pure, Result.andThen_ok]
                      have : (Array.map (fun x => (#[] : Array Value)[x % (#[] : Array Value).size]!) (Array.range 0)) = (List.replicate 0 ed.zero.cells.toList).flatten.toArray := Array.ext' (by simp)
                      rw [this, hc1]
                      simp [newRow]
                    · simp only [hz, if_false, Sem.run_bind, (hT _ _ hed).runZ, Sem.run_pure, Result.andThen_ok]
                      have := range_zero ed.zero.cells (by omega) n
                      rw [z1] at this
                      rw [z1, this, hc1]
                      simp [newRow]
                  refine ⟨cells', by simp only [execOp, Sem.run_bind, hrun, Result.andThen_ok]; rfl, hsize, ?_, fun i r hi => ?_⟩
                  · have : n * 1 ≤ n * ed.size := Nat.mul_le_mul_left _ z3
                    omega
                  · obtain ⟨q1, q2⟩ := g2 i r hi
                    refine ⟨q1, ?_⟩
                    have hd := VRA.ofD hds hc2.2
                    rw [DRA_iff] at hd ⊢
                    intro j c hj
                    have hj' : j < ed.size := q1 ▸ (List.getElem?_eq_some_iff.1 hj).1
                    have := hd (i * ed.size + j) c (by rw [← q2 j hj']; exact hj)
                    simpa using this
                · cases h
              · cases h
            · cases h
          · cases h
        · cases h
      · cases h
    · cases h

/-- A slice literal: data from then on. -/
theorem m_lit {X : Ctx} {T : TypeId → Option TyD} (hT : TabOk X.P T) {all : Array Oper} {s : St} {o : Oper} {e : TypeId} {sz len : Nat} {rows : List (List D)} (hg : gd all s o = some true) (h : evalB T s o.op = some (e, sz, len, rows)) : M1 X all s o (.d (.sl sz (nth [] rows) 0 (iota len 0))) := fun io F a w ht hb hF K Q hK => by
  obtain ⟨h1, arr, h2, h3, h4, h5⟩ := evalB_sound (P := X.P) hT o (operands_of ht) h
  refine opWp_value (gd_sound ht hg) h2 (hK (fun b => F b ∨ b = w.heap.size) _ _ (below_alloc w _) (fun b h => .inl h) (fun b h => ?_) ?_)
  · rcases h with h | h
    · exact .inl h
    · exact .inr ⟨by omega, by simp; omega⟩
  · simp only [VR, DR]
    refine .inr ⟨w.heap.size, 0, len, arr, e, (0, 0), by rw [iota_len], by rw [iota_len]; exact Nat.le_refl _, .inr rfl, heap_alloc_new w _, fun i a hi => ?_⟩
    have hlt : i < len := by have := (List.getElem?_eq_some_iff.1 hi).1; rwa [iota_len] at this
    rw [iota_get hlt] at hi
    simp only [Option.some.injEq, Nat.zero_add] at hi
    subst hi
    have hr := List.getElem?_eq_getElem (show i < rows.length by omega)
    obtain ⟨q1, q2⟩ := h5 i _ hr
    rw [nth_of hr]
    refine ⟨q1, DRA.mono (w := w) (F := F) (fun _ h => .inl h) (fun b h => (below_alloc w _).block b (hF b h)) _ _ _ ?_⟩
    simpa using q2

/-- The same, its capacity known. -/
theorem m_litF {X : Ctx} {T : TypeId → Option TyD} (hT : TabOk X.P T) {all : Array Oper} {s : St} {o : Oper} {e : TypeId} {sz len : Nat} {rows : List (List D)} (hg : gd all s o = some true) (h : evalB T s o.op = some (e, sz, len, rows)) : M1 X all s o (.d (.full (.sl sz (nth [] rows) 0 (iota len 0)))) := fun io F a w ht hb hF K Q hK => by
  obtain ⟨h1, arr, h2, h3, h4, h5⟩ := evalB_sound (P := X.P) hT o (operands_of ht) h
  refine opWp_value (gd_sound ht hg) h2 (hK (fun b => F b ∨ b = w.heap.size) _ _ (below_alloc w _) (fun b h => .inl h) (fun b h => ?_) ?_)
  · rcases h with h | h
    · exact .inl h
    · exact .inr ⟨by omega, by simp; omega⟩
  · simp only [VR, DR]
    refine ⟨⟨_, _, rfl⟩, .inr ⟨w.heap.size, 0, len, arr, e, (0, 0), by rw [iota_len], by rw [iota_len]; exact Nat.le_refl _, .inr rfl, heap_alloc_new w _, fun i a hi => ?_⟩⟩
    have hlt : i < len := by have := (List.getElem?_eq_some_iff.1 hi).1; rwa [iota_len] at this
    rw [iota_get hlt] at hi
    simp only [Option.some.injEq, Nat.zero_add] at hi
    subst hi
    have hr := List.getElem?_eq_getElem (show i < rows.length by omega)
    obtain ⟨q1, q2⟩ := h5 i _ hr
    rw [nth_of hr]
    refine ⟨q1, DRA.mono (w := w) (F := F) (fun _ h => .inl h) (fun b h => (below_alloc w _).block b (hF b h)) _ _ _ ?_⟩
    simpa using q2

/-- What is appended to a slice literal: data in new memory. -/
theorem m_appF {X : Ctx} {T : TypeId → Option TyD} (hT : TabOk X.P T) {all : Array Oper} {s : St} {o : Oper} {x y : Operand} {t e : TypeId} {td ed : TyD} {α : Type} {en : α → List D} {z : α} {l l2 : List α} {d1 d2 : D} (hop : o.op = .call ⟨.builtin .append, #[x, y], #[t, t]⟩) (hg : gd all s o = some true) (ht' : T t = some td) (hds : td.desc = .slice e) (he : T e = some ed) (hx : s.opd x = .d (.full d1)) (le1 : LeD d1 (.sl ed.size en z l)) (hy : s.opd y = .d d2) (le2 : LeD d2 (.sl ed.size en z l2)) (hz : zeroOk ed = true) (hb' : l.length + l2.length ≤ 9223372036854775807 ∧ (l.length + l2.length) * ed.bytes ≤ 140737488355328) : M1 X all s o (.d (.sl ed.size en z (l ++ l2))) := fun io F a w ht hb hF K Q hK => by
  obtain ⟨dst, op, ty, pos, after, g⟩ := o
  cases hop
  have hop' := operands_of ht
  have hvx := hop' x (by simp [Op.operands, Call.operands])
  have hvy := hop' y (by simp [Op.operands, Call.operands])
  rw [hx] at hvx
  rw [hy] at hvy
  simp only [VR] at hvx hvy
  have hvy := le2 F w _ hvy
  simp only [DR] at hvx
  obtain ⟨⟨p, n, hev⟩, hvx⟩ := hvx
  have hvx := le1 F w _ hvx
  obtain ⟨i, hi, his, hib, hiz⟩ := (hT _ _ he).inf
  obtain ⟨z1, z2, z3, z4⟩ := zeroOk_sound (F := F) (w := w) hz
  have hund := (hT _ _ ht').und
  rw [hds] at hund
  have hmx : maxLen = 9223372036854775807 := rfl
  have fin : ∀ (v' : Value) (w' : World) (F' : Nat → Prop), (Builtin.append_ #[t, t] ty #[a.eval x, a.eval y]).run X.P w = .ok v' w' → Below w.heap.size w w' → (∀ b, F b → F' b) → (∀ b, F' b → F b ∨ (w.heap.size ≤ b ∧ b < w'.heap.size)) → DR F' w' (.sl ed.size en z (l ++ l2)) v' → opWp X.P all ⟨dst, .call ⟨.builtin .append, #[x, y], #[t, t]⟩, ty, pos, after, g⟩ a w K Q := fun v' w' F' h1 h2 h3 h4 h5 => opWp_value (gd_sound ht hg) (run_append h1) (hK F' w' v' h2 h3 h4 (by simpa only [VR] using h5))
  rw [hev] at fin hvx
  have fresh : ∀ (v1 : Value) (vals news : List Value) (cap : Nat), vals.length = l.length * ed.size → LRA F w (fun j => vals[j]?) 0 ed.size en l → news.length = l2.length * ed.size → LRA F w (fun j => news[j]?) 0 ed.size en l2 → (l ++ l2).length ≤ cap → (Builtin.append_ #[t, t] ty #[.slice p n n, a.eval y]).run X.P w = .ok (.slice (some ⟨w.heap.size, 0, none⟩) (l ++ l2).length cap) (w.drew.alloc (.cells (vals.toArray ++ news.toArray ++ Builtin.zeroCells ed.zero.cells (cap - (l ++ l2).length)) e)) → opWp X.P all ⟨dst, .call ⟨.builtin .append, #[x, y], #[t, t]⟩, ty, pos, after, g⟩ a w K Q := fun v1 vals news cap h1 h2 h3 h4 h5 h6 => by
    have hap := LRA.append h1 h2 h4
    have hap2 : LRA F w (fun j => (vals.toArray ++ news.toArray ++ Builtin.zeroCells ed.zero.cells (cap - (l ++ l2).length))[j]?) 0 ed.size en (l ++ l2) := LRA.of_prefix (us := vals ++ news) (by simp [h1, h3, Nat.add_mul]) hap fun j hj => by
      rw [Array.getElem?_append_left (by simpa using hj)]
      simp
    have hbw : Below w.heap.size w (w.drew.alloc (.cells (vals.toArray ++ news.toArray ++ Builtin.zeroCells ed.zero.cells (cap - (l ++ l2).length)) e)) := ((Below.refl _ _).drew).alloc (Nat.le_refl _) _
    refine fin _ _ (fun b => F b ∨ b = w.heap.size) h6 hbw (fun b h => .inl h) (fun b h => ?_) ?_
    · rcases h with h | h
      · exact .inl h
      · exact .inr ⟨by omega, by subst h; exact lt_of_heap (heap_alloc_new w.drew _)⟩
    · simp only [DR]
      refine .inr ⟨w.heap.size, 0, cap, _, e, (0, 0), rfl, h5, .inr rfl, heap_alloc_new w.drew _, fun i a hi => ?_⟩
      obtain ⟨q1, q2⟩ := hap2 i a hi
      exact ⟨q1, DRA.mono (w := w) (F := F) (fun _ h => .inl h) (fun b h => hbw.block b (hF b h)) _ _ _ q2⟩
  by_cases hm0 : l2 = []
  · subst hm0
    have hs : a.eval y = .slice none 0 0 ∨ ∃ q c, a.eval y = .slice (some q) 0 c := by
      simp only [DR] at hvy
      rcases hvy with ⟨⟨q, h⟩, _⟩ | ⟨b, off, cap, arr, ty', fz, h, _⟩
      · cases q
        · exact .inl h
        · exact .inr ⟨_, _, h⟩
      · exact .inr ⟨_, _, h⟩
    refine fin (.slice p n n) w F (run_append_empty (hT _ _ ht') hds (hT _ _ he) _ n n p hs (Nat.le_refl _)) (Below.refl _ _) (fun _ h => h) (fun _ h => .inl h) ?_
    simpa using hvx
  · have hl2 : l2.length ≠ 0 := fun h => hm0 (List.eq_nil_of_length_eq_zero h)
    simp only [DR] at hvy
    rcases hvy with ⟨_, h⟩ | ⟨c, off, cc, arr2, ty', fz, hvy, _, _, hh2, hr2⟩
    · exact absurd h hm0
    obtain ⟨news, n1, n2, n3, n4⟩ := lra_vals l2 off (g := fun j => arr2[j]?) (F := F) (w := w) hr2
    have hcell : ∀ (j : Nat) x, news[j]? = some x → w.cell? ((⟨c, off, none⟩ : Addr).add j) = some x := fun j x hj => by
      rw [add_plain]
      have hj' : j < news.length := (List.getElem?_eq_some_iff.1 hj).1
      simp [World.cell?, hh2, n2 j hj', hj]
    rw [hvy] at fresh
    simp only [DR] at hvx
    rcases hvx with ⟨⟨p', hev2⟩, rfl⟩ | ⟨b, off1, cap1, arr, ty1, fz1, hev2, _, _, hh, hr⟩
    · injection hev2 with e1 e2 e3
      subst e1 e2
      cases p with
      | some q =>
        have hrun := run_append_grow (P := X.P) w t ty e i ed.zero hund hi hiz q 0 0 [] (by simp) (fun j x hj => by simp at hj) ⟨c, off, none⟩ l2.length cc news (by rw [his]; exact n1) hcell (by omega) (by omega) (growslice_fits (by omega) (by rw [hib]; simp at hb'; simpa using hb'.2))
        have hge := grownCap_ge w (0 + l2.length) 0 e
        rw [Nat.zero_add] at hrun hge
        refine fresh undef [] news (grownCap w l2.length 0 e) (by simp) (fun i a hi => by simp at hi) n1 n3 (by simp; omega) ?_
        simpa using hrun
      | none =>
      have hrun := run_append_nil (P := X.P) w t ty e i ed.zero hund hi hiz ⟨c, off, none⟩ l2.length cc news (by rw [his]; exact n1) hcell (by omega) (by simp at hb'; omega) (by rw [hib]; simp at hb'; omega)
      have hge := grownCap_ge w l2.length 0 e
      refine fresh undef [] news (grownCap w l2.length 0 e) (by simp) (fun i a hi => by simp at hi) n1 n3 (by simp; omega) ?_
      simpa using hrun
    · injection hev2 with e1 e2 e3
      subst e1 e2
      subst e3
      obtain ⟨vals, v1, v2, v3, v4⟩ := lra_vals l off1 (g := fun j => arr[j]?) (F := F) (w := w) hr
      have holds : ∀ (j : Nat) x, vals[j]? = some x → w.cell? ((⟨b, off1, none⟩ : Addr).add j) = some x := fun j x hj => by
        rw [add_plain]
        have hj' : j < vals.length := (List.getElem?_eq_some_iff.1 hj).1
        simp [World.cell?, hh, v2 j hj', hj]
      have hrun := run_append_grow (P := X.P) w t ty e i ed.zero hund hi hiz ⟨b, off1, none⟩ l.length l.length vals (by rw [his]; exact v1) holds ⟨c, off, none⟩ l2.length cc news (by rw [his]; exact n1) hcell (by omega) (by omega) (growslice_fits (by omega) (by rw [hib]; exact hb'.2))
      have hge := grownCap_ge w (l.length + l2.length) l.length e
      refine fresh undef vals news (grownCap w (l.length + l2.length) l.length e) v1 v3 n1 n3 (by simp; omega) ?_
      simpa using hrun

/-- A slice literal that will be written or lengthened. -/
theorem e_lit {X : Ctx} {T : TypeId → Option TyD} (hT : TabOk X.P T) {all : Array Oper} {s : St} {d : Tmp} {op : Op} {ty : TypeId} {pos : String} {after : Array Edge} {g : Option (Nat × Bool)} {e : TypeId} {sz len : Nat} {rows : List (List D)} (hg : gd all s ⟨some d, op, ty, pos, after, g⟩ = some true) (hd : dstOk X.N (some d) = true) (hK : X.K.contains d = false) (h : evalB T s op = some (e, sz, len, rows)) {α : Type} {en : α → List D} {z : α} {l : List α} (hl : LeR sz rows en l) : E1 X all s ⟨some d, op, ty, pos, after, g⟩ ((s.new d (.data e sz en z l)).put (some d) (.own d 0 l.length e sz)) := by
  intro io F a w hs K Q hQ
  obtain ⟨h1, arr, h2, h3, h4, h5⟩ := evalB_sound (P := X.P) hT ⟨some d, op, ty, pos, after, g⟩ (fun y _ => hs.opd y) h
  obtain ⟨r1, r2⟩ := hl.spec
  have hnb := hs.newBlk d (notMem hK) e arr (.data e sz en z l) (.inl ⟨_, _, _, _, _, rfl, fun i a hi => by
    have hlt : i < rows.length := by have := (List.getElem?_eq_some_iff.1 hi).1; omega
    have hr := List.getElem?_eq_getElem hlt
    obtain ⟨q1, q2⟩ := h5 i _ hr
    obtain ⟨p1, p2⟩ := r2 i _ a hr hi
    exact ⟨p2.1.symm.trans q1, by rw [Nat.zero_add]; exact p2.2 F w _ _ q2⟩⟩)
  refine opWp_value (gd_sound (fun t _ => hs.tm t) hg) h2 (hQ _ F _ _ (hnb.put (dstOk_sound hd) ?_))
  have hlen : l.length = len := by omega
  simp only [VR]
  refine .inr ⟨w.heap.size, len, arr, updio_same _ _ _, by rw [hlen]; simp, by omega, by unfold maxLen; omega, heap_alloc_new w _, by rw [h3]; simp, ?_⟩
  show _ ≤ (s.new d _).ln d
  rw [show (s.new d (.data e sz en z l)).ln d = _ from ln_of withBlk_same]
  simp [Blk.ln]
end Go.Vw
