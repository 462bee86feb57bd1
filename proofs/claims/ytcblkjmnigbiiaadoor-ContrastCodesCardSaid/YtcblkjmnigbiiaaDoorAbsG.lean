/-
  Operations that make, write or lengthen a block of the call's own. Conditions: the table of types is the program's.
-/
import Derived.Test.YtcblkjmnigbiiaaDoorAbsF
set_option autoImplicit false
set_option linter.unusedSimpArgs false
namespace Go.Ab
open Go.RowKit

/-- A write into a block of the call's own leaves all else as it is. -/
theorem SR.write {X : Ctx} {io : Nat → Option Nat} {F : Nat → Prop} {s : St} {a : Act} {w : World} (hs : SR X io F s a w) {k b : Nat} (hk : s.blk k ≠ none) (hio : io k = some b) (hF : ¬ F b) (hA : X.A b ∨ X.w0.heap.size ≤ b) {arr arr' : Array Value} {ty : TypeId} (hh : w.heap[b]? = some (.cells arr ty (0, 0))) (hsz : arr'.size = arr.size) {nb : Blk}
    (hb : (∃ cs, nb = .data ty cs ∧ ∃ vals, RowAt arr' 0 vals ∧ DRL F w cs vals) ∨ (∃ cs, nb = .box ty cs ∧ ∃ vals, RowAt arr' 0 vals ∧ VRL io F w cs vals)) : SR X io F (s.withBlk k nb) a (w.setRow b arr') := by
  have hlt := lt_of_heap hh
  have hoth : ∀ c, c ≠ b → (w.setRow b arr').heap[c]? = w.heap[c]? := fun c h => setRow_other w b c arr' h
  have hst : Stays F w (w.setRow b arr') := fun c h => hoth c fun e => hF (e ▸ h)
  have hself : (w.setRow b arr').heap[b]? = some (.cells arr' ty (0, 0)) := setRow_heap w b arr arr' ty _ hh
  have hsh : Shapes w (w.setRow b arr') := fun c x ty' fz h => by
    by_cases e : c = b
    · subst e; rw [hh] at h; cases h; exact ⟨arr', hself, hsz⟩
    · exact ⟨x, (hoth c e).trans h, rfl⟩
  have hsize : (w.setRow b arr').heap.size = w.heap.size := by simp [World.setRow]
  have mv : ∀ x v, VR io F w x v → VR io F (w.setRow b arr') x v := VR.mono (fun _ => rfl) (fun _ h => h) hst hsh
  refine ⟨⟨hs.kept.os, hs.kept.tape, hs.kept.output, by rw [hsize]; exact hs.kept.size, fun c h1 h2 => ?_⟩, fun t => mv _ _ (hs.tm t), hs.nt, hs.df, fun j b' hj => ?_, fun j j' c h1 h2 e1 e2 => ?_, fun c h => by rw [hsize]; exact hs.ff c h, hs.f0⟩
  · rw [hoth c fun e => by subst e; rcases hA with h | h; exact h2 h; omega]
    exact hs.kept.block c h1 h2
  · by_cases e : j = k
    · subst e
      rw [withBlk_same] at hj
      cases hj
      rcases hb with ⟨cs, rfl, vals, hr, hd⟩ | ⟨cs, rfl, vals, hr, hd⟩
      · simp only [BR]
        exact .inr ⟨b, arr', vals, hio, hF, hA, hself, hr, DRL.mono (fun _ h => h) hst _ _ hd⟩
      · simp only [BR]
        exact ⟨b, arr', vals, hio, hF, hA, hself, hr, VRL.mono (fun _ => rfl) (fun _ h => h) hst hsh _ _ hd⟩
    · rw [withBlk_ne e] at hj
      have hold := hs.bl j b' hj
      have hneb : ∀ c, io j = some c → c ≠ b := fun c hc e' => e (hs.inj j k b (by rw [hj]; simp) hk (e' ▸ hc) hio)
      cases b' with
      | data ty' cells =>
        simp only [BR] at hold ⊢
        rcases hold with h | ⟨c, x, vals, h1, h2, h3, h4, h5, h6⟩
        · exact .inl h
        · exact .inr ⟨c, x, vals, h1, h2, h3, (hoth c (hneb c h1)).trans h4, h5, DRL.mono (fun _ h => h) hst _ _ h6⟩
      | box ty' cells =>
        simp only [BR] at hold ⊢
        obtain ⟨c, x, vals, h1, h2, h3, h4, h5, h6⟩ := hold
        exact ⟨c, x, vals, h1, h2, h3, (hoth c (hneb c h1)).trans h4, h5, VRL.mono (fun _ => rfl) (fun _ h => h) hst hsh _ _ h6⟩
  · have h1' : s.blk j ≠ none := by
      by_cases e : j = k
      · rw [e]; exact hk
      · rwa [withBlk_ne e] at h1
    have h2' : s.blk j' ≠ none := by
      by_cases e : j' = k
      · rw [e]; exact hk
      · rwa [withBlk_ne e] at h2
    exact hs.inj j j' c h1' h2' e1 e2

/-- Some cells put in the place of others. -/
def splice {α : Type} (cs : List α) (o : Nat) (xs : List α) : List α := cs.take o ++ (xs ++ cs.drop (o + xs.length))

theorem run_storeRow {P : Program} {w : World} {t : TypeId} {dd : TyD} (ht : TyOk P t dd) {b o : Nat} {arr : Array Value} {ty : TypeId} (hh : w.heap[b]? = some (.cells arr ty (0, 0))) {v : Value} (hsz : v.cells.size = dd.size) (hl : o + dd.size ≤ arr.size) (h1 : ∀ u ∈ v.cells.toList, u.oneCell' = true) :
    (storeVar t ⟨b, o, none⟩ v).run P w = .ok () (w.setRow b (splice arr.toList o v.cells.toList).toArray) := by
  have := run_storeCells_at P b o ty v.cells.toList 0 arr w hh (by simp; omega) h1
  simp only [storeVar, Sem.run_bind, ht.runS, Result.andThen_ok]
  rw [if_neg (by simp [hsz])]
  rw [this]
  simp [splice]

theorem rowAt_splice {arr : Array Value} {vals : List Value} (hr : RowAt arr 0 vals) (o : Nat) (xs : List Value) (ho : o + xs.length ≤ vals.length) : RowAt (splice arr.toList o xs).toArray 0 (splice vals o xs) := by
  intro j v hj
  have hle : vals.length ≤ arr.size := by
    rcases Nat.lt_or_ge arr.size vals.length with h | h
    · have := hr (vals.length - 1) (vals[vals.length - 1]'(by omega)) (List.getElem?_eq_getElem _)
      have := (Array.getElem?_eq_some_iff.1 this).1
      omega
    · exact h
  have hA : (vals.take o).length = o := by simp; omega
  have hB : (arr.toList.take o).length = o := by simp; omega
  simp only [splice, Nat.zero_add] at hj ⊢
  rw [List.getElem?_toArray]
  by_cases h1 : j < o
  · rw [List.getElem?_append_left (by omega), List.getElem?_take, if_pos h1] at hj ⊢
    have := hr j v hj
    simpa using this
  · rw [List.getElem?_append_right (by omega)] at hj ⊢
    rw [hA] at hj; rw [hB]
    by_cases h2 : j - o < xs.length
    · rw [List.getElem?_append_left h2] at hj ⊢; exact hj
    · rw [List.getElem?_append_right (by omega), List.getElem?_drop] at hj ⊢
      have := hr _ v hj
      simpa using this

theorem size_splice (arr : Array Value) (o : Nat) (xs : List Value) (ho : o + xs.length ≤ arr.size) : (splice arr.toList o xs).toArray.size = arr.size := by
  simp [splice]; omega

theorem DRL.splice {F : Nat → Prop} {w : World} {xs ys : List D} {vs us : List Value} (h : DRL F w xs vs) (k : DRL F w ys us) (o : Nat) : DRL F w (Ab.splice xs o ys) (Ab.splice vs o us) := by
  unfold Ab.splice
  rw [k.length]
  exact DRL.append (DRL.take _ h) (DRL.append k (DRL.drop _ h))
theorem VRL.splice {io : Nat → Option Nat} {F : Nat → Prop} {w : World} {xs ys : List V} {vs us : List Value} (h : VRL io F w xs vs) (k : VRL io F w ys us) (o : Nat) : VRL io F w (Ab.splice xs o ys) (Ab.splice vs o us) := by
  unfold Ab.splice
  rw [k.length]
  exact VRL.append (VRL.take _ h) (VRL.append k (VRL.drop _ h))

def D.zcells (z : Value) : List D := match D.ofV z with | .agg cs => cs | x => [x]

/-- What an operation with an effect does: the condition, the value (none: there is none), the state. -/
def evalE (T : TypeId → Option TyD) (s : St) (dst : Option Tmp) : Op → Ev (Option V × St)
  | .alloc e => match dst, T e with
    | some d, some ed => if (V.d (D.ofV ed.zero)).storable then some (True, some (.ptr d 0), s.new d (.box e (V.d (D.ofV ed.zero)).cells)) else none
    | _, _ => none
  | .box e x => match dst with
    | some d => if (s.opd x).storable then some (True, some (.ptr d 0), s.new d (.box e (V.killL d (s.opd x).cells))) else none
    | none => none
  | .makeSlice t l c => match dst, T t, intOfV (s.opd l), intOfV (s.opd c) with
    | some d, some td, some l, some c => match td.desc with
      | .slice e => match T e with
        | some ed => if Nat.beq (D.zcells ed.zero).length ed.size && Nat.blt 0 ed.size && (V.d (D.ofV ed.zero)).storable then
            some (0 ≤ l ∧ l ≤ c ∧ c ≤ maxLen ∧ c * ed.bytes ≤ 140737488355328, some (.own d l.toNat e ed.size), s.new d (.data e (List.replicate l.toNat (D.zcells ed.zero)).flatten))
          else none
        | none => none
      | _ => none
    | _, _, _, _ => none
  | .store t addr x => match T t, s.opd addr with
    | some td, .ptr k o => match s.blk k with
      | some (.data ty cs) => match s.opd x with
        | .d y => if (V.d y).storable then some (o + td.size ≤ cs.length ∧ y.cells.length = td.size, none, s.withBlk k (.data ty (splice cs o y.cells))) else none
        | _ => none
      | some (.box ty cs) => if (s.opd x).storable then some (o + td.size ≤ cs.length ∧ (s.opd x).cells.length = td.size, none, s.withBlk k (.box ty (splice cs o (s.opd x).cells))) else none
      | none => none
    | _, _ => none
  | _ => none

theorem V.cells_d (y : D) : (V.d y).cells = y.cells.map V.d := by cases y <;> rfl

theorem DR.cells {F : Nat → Prop} {w : World} {y : D} {v : Value} (hst : (V.d y).storable = true) (h : DR F w y v) : DRL F w y.cells v.cells.toList := by
  have := VR.cells (io := fun _ => none) (F := F) (w := w) hst (x := V.d y) (v := v) (by simpa only [VR] using h)
  rw [V.cells_d] at this
  exact VRL.ofD (ds := y.cells) (by
    induction y.cells with
    | nil => rfl
    | cons x xs ih => simp [allD, ih]) this

theorem flat_get (z : List Value) : ∀ (n j : Nat), j < n * z.length → (List.replicate n z).flatten[j]? = z[j % z.length]?
  | 0, j, h => by simp at h
  | n + 1, j, h => by
    simp only [List.replicate_succ, List.flatten_cons]
    by_cases h' : j < z.length
    · rw [List.getElem?_append_left h', Nat.mod_eq_of_lt h']
    · rw [List.getElem?_append_right (by omega), flat_get z n (j - z.length) (by rw [Nat.succ_mul] at h; omega), ← Nat.mod_eq_sub_mod (by omega)]

theorem range_zero (z : Array Value) (hp : 0 < z.size) (n : Nat) : ((Array.range (n * z.size)).map fun j => z[j % z.size]!) = (List.replicate n z.toList).flatten.toArray := by
  apply Array.ext'
  simp only [Array.toList_map, Array.toList_range]
  apply List.ext_getElem?
  intro j
  by_cases hj : j < n * z.size
  · have hm : j % z.size < z.size := Nat.mod_lt _ hp
    rw [List.getElem?_map, List.getElem?_range hj, flat_get z.toList n j (by simpa using hj)]
    simp [hm, getElem!_pos]
  · rw [List.getElem?_eq_none (by simp; omega), List.getElem?_eq_none (by simp; omega)]

def Sem.okNext (P : Program) (a : Act) (o : Oper) (w w' : World) (x : Option V) (v : Value) : Prop :=
  (execOp a.eval o).run P w = (match x with | some _ => .ok (.value v) w' | none => .ok .skip w')

set_option maxHeartbeats 1000000 in
theorem evalE_sound {X : Ctx} {T : TypeId → Option TyD} (hT : TabOk X.P T) {io : Nat → Option Nat} {F : Nat → Prop} {s : St} {a : Act} {w : World} (hs : SR X io F s a w) (o : Oper) {C : Prop} {x : Option V} {s' : St} (h : evalE T s o.dst o.op = some (C, x, s')) (hC : C) :
    ∃ v w' io', Sem.okNext X.P a o w w' x v ∧ SR X io' F s' a w' ∧ (∀ y, x = some y → VR io' F w' y v) := by
  obtain ⟨dst, op, ty, pos, after, guard⟩ := o
  cases op <;> simp only [evalE] at h <;> try (cases h; done)
  case alloc e =>
    split at h
    · rename_i d ed hed
      split at h
      · rename_i hst
        simp only [Option.some.injEq, Prod.mk.injEq] at h; obtain ⟨rfl, rfl, rfl⟩ := h
        have hz : VR (updio io d (some w.heap.size)) F w (V.d (D.ofV ed.zero)) ed.zero := by simp only [VR]; exact DR.ofV F w _
        refine ⟨.pointer (some ⟨w.heap.size, 0, none⟩), w.alloc (.cells ed.zero.cells e), updio io d (some w.heap.size), ?_, hs.newBlk d e ed.zero.cells _ _ (rowAt_self _) (.inr ⟨_, rfl, VR.cells hst hz⟩), fun y hy => ?_⟩
        · simp [Sem.okNext, execOp, Instr.alloc, (hT _ _ hed).runZ, newVar, newRow]
        · simp only [Option.some.injEq] at hy; subst hy
          simp only [VR]; exact ⟨_, updio_same _ _ _, rfl⟩
      · cases h
    · cases h
  case box e y =>
    split at h
    · rename_i d
      split at h
      · rename_i hst
        simp only [Option.some.injEq, Prod.mk.injEq] at h; obtain ⟨rfl, rfl, rfl⟩ := h
        have hz := VR.cells hst (hs.opd y)
        refine ⟨.pointer (some ⟨w.heap.size, 0, none⟩), w.alloc (.cells (a.eval y).cells e), updio io d (some w.heap.size), ?_, hs.newBlk d e (a.eval y).cells _ _ (rowAt_self _) (.inr ⟨_, rfl, VRL.kill (fun j h => updio_ne io _ h) _ _ hz⟩), fun y hy => ?_⟩
        · simp [Sem.okNext, execOp, Instr.box, newVar, newRow]
        · simp only [Option.some.injEq] at hy; subst hy
          simp only [VR]; exact ⟨_, updio_same _ _ _, rfl⟩
      · cases h
    · cases h
  case makeSlice t l c =>
    split at h
    · rename_i d td l' c' htd hl hc
      split at h
      · rename_i e he
        split at h
        · rename_i ed hed
          split at h
          · rename_i hok
            simp only [Bool.and_eq_true] at hok
            obtain ⟨⟨hzl, hpos⟩, hst⟩ := hok
            have hzl := Nat.eq_of_beq_eq_true hzl
            have hpos : 0 < ed.size := by simpa [Nat.blt_eq] using hpos
            simp only [Option.some.injEq, Prod.mk.injEq] at h; obtain ⟨rfl, rfl, rfl⟩ := h
            obtain ⟨h0, hlc, hcm, hcb⟩ := hC
            obtain ⟨k1, e1⟩ := intOfV_sound hl (hs.opd l)
            obtain ⟨k2, e2⟩ := intOfV_sound hc (hs.opd c)
            have hu := (hT _ _ htd).runU w
            rw [he] at hu
            have hmx : (maxLen : Int) = 9223372036854775807 := rfl
            have wl : IntKind.i64.wrap l' = l' := IntWalk.i64_in l' (by omega)
            have wc : IntKind.i64.wrap c' = c' := IntWalk.i64_in c' (by omega)
            obtain ⟨i, hi, his, hib, hiz⟩ := (hT _ _ hed).inf
            have hzd : DRL F w (D.zcells ed.zero) ed.zero.cells.toList := by
              have := DR.cells hst (DR.ofV F w ed.zero)
              unfold D.zcells
              revert this
              cases D.ofV ed.zero <;> exact id
            have hzs : ed.zero.cells.size = ed.size := by have := hzd.length; simp at this; omega
            have hn : c'.toNat * ed.size = 0 ∨ c'.toNat * ed.size ≠ 0 := by omega
            have hrow : ((Array.range (c'.toNat * ed.size)).map fun j => ed.zero.cells[j % ed.zero.cells.size]!) = (List.replicate c'.toNat ed.zero.cells.toList).flatten.toArray := by
              rw [← hzs]; exact range_zero _ (by omega) _
            have hrun : (Instr.makeSlice t (a.eval l) (a.eval c)).run X.P w = .ok (.slice (some ⟨w.heap.size, 0, none⟩) l'.toNat c'.toNat) (w.alloc (.cells (List.replicate c'.toNat ed.zero.cells.toList).flatten.toArray e)) := by
              have hnl : ¬ (c' < 0) := by omega
              have hnb : ¬ ((ed.bytes : Int) * c' > 2 ^ 48) := by
                have : (ed.bytes : Int) * c' = c' * ed.bytes := Int.mul_comm _ _
                omega
              simp only [Instr.makeSlice, Sem.run_bind, hu, Result.andThen_ok, e1, e2, asInt, asIntOf, Sem.run_pure, typeInfo, run_program, hi, hib, wl, wc]
              have hif : ¬ (((decide (c' < 0) || decide ((ed.bytes : Int) * c' > 2 ^ 48)) || decide (l' < 0) || decide (l' > c')) = true) := by
                simp; omega
              rw [if_neg hif]
              simp only [Sem.run_bind, run_askRoom, Result.andThen_ok, (hT _ _ hed).runS]
              by_cases hz : c'.toNat * ed.size = 0
              · simp only [hz, if_true, Sem.run_pure, Result.andThen_ok]
                have : c'.toNat = 0 := by
                  rcases Nat.mul_eq_zero.1 hz with h | h
                  · exact h
                  · omega
                simp [this, newRow]
                congr 2
                apply Array.ext'
                simp
              · simp only [hz, if_false, Sem.run_bind, (hT _ _ hed).runZ, Result.andThen_ok, Sem.run_pure, hrow]
                simp [newRow]
            have hlen : (List.replicate c'.toNat ed.zero.cells.toList).flatten.length = c'.toNat * ed.size := by simp [hzs]
            refine ⟨_, _, updio io d (some w.heap.size), by simp only [Sem.okNext, execOp, Sem.run_bind, hrun, Result.andThen_ok]; rfl, hs.newBlk d e _ (.data e _) ((List.replicate l'.toNat ed.zero.cells.toList).flatten) ?_ (.inl ⟨_, rfl, DRL.replicate hzd _⟩), fun y hy => ?_⟩
            · have : c'.toNat = l'.toNat + (c'.toNat - l'.toNat) := by omega
              rw [this, ← List.replicate_append_replicate, List.flatten_append]
              exact rowAt_toArray _ _
            · simp only [Option.some.injEq] at hy; subst hy
              simp only [VR]
              exact .inr ⟨w.heap.size, c'.toNat, _, updio_same _ _ _, rfl, by omega, by have : (maxLen : Int) = ((maxLen : Nat) : Int) := rfl; omega, heap_alloc_new w _, by simp [hzs]⟩
          · cases h
        · cases h
      · cases h
    · cases h
  case store t addr y =>
    split at h
    · rename_i td k o htd haddr
      have ha := hs.opd addr
      rw [haddr] at ha
      simp only [VR] at ha
      obtain ⟨b, hb, ea⟩ := ha
      split at h
      · rename_i ty' cs hk
        split at h
        · rename_i z hz
          split at h
          · rename_i hst
            simp only [Option.some.injEq, Prod.mk.injEq] at h; obtain ⟨rfl, rfl, rfl⟩ := h
            have hv := hs.opd y
            rw [hz] at hv
            simp only [VR] at hv
            have hcl := DR.cells hst hv
            have hl1 := hcl.length
            have hbr := hs.bl k _ hk
            simp only [BR] at hbr
            rcases hbr with ⟨hn, _⟩ | ⟨b', arr, vals, hb', hF, hA, hh, hr, hl⟩
            · rw [hn] at hb; cases hb
            · rw [hb'] at hb; cases hb
              have hl2 := hl.length
              have hle : vals.length ≤ arr.size := by
                rcases Nat.lt_or_ge arr.size vals.length with h | h
                · have := hr (vals.length - 1) (vals[vals.length - 1]'(by omega)) (List.getElem?_eq_getElem _)
                  have := (Array.getElem?_eq_some_iff.1 this).1
                  omega
                · exact h
              have hrun := run_storeRow (P := X.P) (hT _ _ htd) (o := o) hh (v := a.eval y) (by simp at hl1; omega) (by omega) hcl.one
              refine ⟨Go.undef, w.setRow b (splice arr.toList o (a.eval y).cells.toList).toArray, io, ?_, ?_, fun y hy => by cases hy⟩
              · simp only [Sem.okNext, execOp, Instr.storeAt, ea, Instr.sureAddr, Sem.run_bind, Sem.run_pure, Result.andThen_ok, hrun]
              · refine hs.write (by rw [hk]; simp) hb' hF hA hh (size_splice _ _ _ (by omega)) (.inl ⟨_, rfl, splice vals o (a.eval y).cells.toList, rowAt_splice hr _ _ (by omega), DRL.splice hl hcl _⟩)
          · cases h
        · cases h
      · rename_i ty' cs hk
        split at h
        · rename_i hst
          simp only [Option.some.injEq, Prod.mk.injEq] at h; obtain ⟨rfl, rfl, rfl⟩ := h
          have hcl := VR.cells hst (hs.opd y)
          have hl1 := hcl.length
          have hbr := hs.bl k _ hk
          simp only [BR] at hbr
          obtain ⟨b', arr, vals, hb', hF, hA, hh, hr, hl⟩ := hbr
          rw [hb'] at hb; cases hb
          have hl2 := hl.length
          have hle : vals.length ≤ arr.size := by
            rcases Nat.lt_or_ge arr.size vals.length with h | h
            · have := hr (vals.length - 1) (vals[vals.length - 1]'(by omega)) (List.getElem?_eq_getElem _)
              have := (Array.getElem?_eq_some_iff.1 this).1
              omega
            · exact h
          have hrun := run_storeRow (P := X.P) (hT _ _ htd) (o := o) hh (v := a.eval y) (by simp at hl1; omega) (by omega) hcl.one
          refine ⟨Go.undef, w.setRow b (splice arr.toList o (a.eval y).cells.toList).toArray, io, ?_, ?_, fun y hy => by cases hy⟩
          · simp only [Sem.okNext, execOp, Instr.storeAt, ea, Instr.sureAddr, Sem.run_bind, Sem.run_pure, Result.andThen_ok, hrun]
          · refine hs.write (by rw [hk]; simp) hb' hF hA hh (size_splice _ _ _ (by omega)) (.inr ⟨_, rfl, splice vals o (a.eval y).cells.toList, rowAt_splice hr _ _ (by omega), VRL.splice hl hcl _⟩)
        · cases h
      · cases h
    · cases h
end Go.Ab
