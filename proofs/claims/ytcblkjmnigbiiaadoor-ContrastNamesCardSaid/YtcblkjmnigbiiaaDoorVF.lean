/-
  What evalQ says of an operation is what the machine does: structs, and the whole. Conditions: the table of types is the program's.
-/
import Derived.Test.YtcblkjmnigbiiaaDoorVE
set_option linter.unusedSimpArgs false
namespace Go.Vw
open Go.RowKit

/-- Some cells written into a row, one by one. -/
theorem foldl_put (off : Nat) : ∀ (l : List Value) (i : Nat) (cs : Array Value), off + i + l.length ≤ cs.size →
    ((l.zipIdx i).foldl (fun cs (p : Value × Nat) => cs.setIfInBounds (off + p.2) p.1) cs).toList = cs.toList.take (off + i) ++ (l ++ cs.toList.drop (off + i + l.length))
  | [], i, cs, _ => by simp
  | v :: l, i, cs, h => by
    simp only [List.zipIdx_cons, List.foldl_cons]
    rw [foldl_put off l (i + 1) _ (by simp at h ⊢; omega)]
    simp only [Array.toList_setIfInBounds, List.length_cons] at h ⊢
    rw [List.set_eq_take_append_cons_drop, if_pos (by simp; omega)]
    have hA : (cs.toList.take (off + i)).length = off + i := by simp; omega
    have h1 : (cs.toList.take (off + i) ++ v :: cs.toList.drop (off + i + 1)).take (off + (i + 1)) = cs.toList.take (off + i) ++ [v] := by
      rw [List.take_append, hA, List.take_of_length_le (by omega), show off + (i + 1) - (off + i) = 1 by omega]
      rfl
    have h2 : (cs.toList.take (off + i) ++ v :: cs.toList.drop (off + i + 1)).drop (off + (i + 1) + l.length) = cs.toList.drop (off + i + (l.length + 1)) := by
      rw [List.drop_append, hA, List.drop_eq_nil_of_le (by omega), show off + (i + 1) + l.length - (off + i) = l.length + 1 by omega, List.drop_succ_cons, List.drop_drop, List.nil_append]
      congr 1
      omega
    rw [h1, h2]
    simp

theorem foldl_put' (off : Nat) (v : Array Value) (cs : Array Value) (h : off + v.size ≤ cs.size) :
    (v.zipIdx.foldl (fun cs (p : Value × Nat) => cs.setIfInBounds (off + p.2) p.1) cs).toList = cs.toList.take off ++ (v.toList ++ cs.toList.drop (off + v.size)) := by
  have := foldl_put off v.toList 0 cs (by simpa using h)
  rw [← Array.foldl_toList]
  simpa using this

/-- The values' cells as a list. -/
def VRL (io : Keys) (F : Nat → Prop) (w : World) (cs : List V) (vs : List Value) : Prop := vs.length = cs.length ∧ VRA io F w (fun i => vs[i]?) 0 cs

theorem VRL.append {io : Keys} {F : Nat → Prop} {w : World} {xs ys : List V} {vs us : List Value} (h : VRL io F w xs vs) (k : VRL io F w ys us) : VRL io F w (xs ++ ys) (vs ++ us) := by
  refine ⟨by simp [h.1, k.1], ?_⟩
  rw [VRA_iff]
  intro i c hi
  by_cases h' : i < xs.length
  · rw [List.getElem?_append_left h'] at hi
    obtain ⟨v, h1, h2⟩ := VRA_iff.1 h.2 i c hi
    refine ⟨v, ?_, h2⟩
    simp only [Nat.zero_add] at h1 ⊢
    rw [List.getElem?_append_left (by rw [h.1]; exact h')]; exact h1
  · rw [List.getElem?_append_right (by omega)] at hi
    obtain ⟨v, h1, h2⟩ := VRA_iff.1 k.2 _ c hi
    refine ⟨v, ?_, h2⟩
    simp only [Nat.zero_add] at h1 ⊢
    rw [List.getElem?_append_right (by rw [h.1]; omega), h.1]; exact h1
theorem VRL.take {io : Keys} {F : Nat → Prop} {w : World} {xs : List V} {vs : List Value} (h : VRL io F w xs vs) (n : Nat) : VRL io F w (xs.take n) (vs.take n) := by
  refine ⟨by simp [h.1], ?_⟩
  refine VRA.congr (fun i hi => ?_) (VRA.take h.2 n)
  simp at hi
  simp only [List.getElem?_take]
  rw [if_pos (by omega)]
theorem VRL.drop {io : Keys} {F : Nat → Prop} {w : World} {xs : List V} {vs : List Value} (h : VRL io F w xs vs) (n : Nat) : VRL io F w (xs.drop n) (vs.drop n) := by
  refine ⟨by simp [h.1], ?_⟩
  refine VRA.congr (fun i hi => ?_) (VRA.drop h.2 n)
  simp only [List.getElem?_drop]
  congr 1; omega
theorem VRL.toV {io : Keys} {F : Nat → Prop} {w : World} {ds : List D} {arr : Array Value} (hl : arr.size = ds.length) (h : DRA F w (fun i => arr[i]?) 0 ds) : VRL io F w (ds.map V.d) arr.toList :=
  ⟨by simpa using hl, VRA.congr (fun i _ => by simp) (DRA.toV h)⟩

theorem fill_sound {io : Keys} {F : Nat → Prop} {w : World} {place place' : Nat → Option (Nat × Nat)} (hp : ∀ i p, place i = some p → place' i = some p) :
    ∀ (parts : List (Nat × V)) (vals : List (Nat × Value)) (cs cs' : List V) (cells : Array Value), fillD place cs parts = some cs' → VRL io F w cs cells.toList →
      vals.length = parts.length → (∀ (j i : Nat) (x : V) (v : Value) (i' : Nat), parts[j]? = some (i, x) → vals[j]? = some (i', v) → i' = i ∧ VR io F w x v) →
      ∃ cells', Instr.fill place' cells vals = some cells' ∧ VRL io F w cs' cells'.toList
  | [], vals, cs, cs', cells, h, hv, hl, _ => by
    simp [fillD] at h; subst h
    have : vals = [] := by simpa using hl
    subst this
    exact ⟨cells, rfl, hv⟩
  | (i, x) :: parts, [], cs, cs', cells, h, hv, hl, hx => by simp at hl
  | (i, x) :: parts, (i', v) :: vals, cs, cs', cells, h, hv, hl, hx => by
    obtain ⟨rfl, hxv⟩ := hx 0 i x v i' (by simp) (by simp)
    simp only [fillD] at h
    split at h
    · cases h
    · rename_i off size hpl
      split at h
      · rename_i hok
        simp only [Bool.and_eq_true] at hok
        obtain ⟨⟨hst, hsz⟩, hb⟩ := hok
        have hsz := Nat.eq_of_beq_eq_true hsz
        have hb := Nat.le_of_ble_eq_true hb
        obtain ⟨hc1, hc⟩ := VR.cells hst hxv
        have hlen : v.cells.size = size := by omega
        have hcl := hv.1
        simp at hcl
        simp only [Instr.fill, hp i' _ hpl]
        rw [if_neg (by rw [hlen]; simp; omega)]
        refine fill_sound hp parts vals _ cs' _ h ?_ (by simpa using hl) (fun j i x u i' h1 h2 => hx (j + 1) i x u i' (by simpa using h1) (by simpa using h2))
        rw [foldl_put' off v.cells cells (by omega), hlen]
        exact VRL.append (VRL.take hv _) (VRL.append ⟨by simpa using hc1, VRA.congr (fun i _ => by simp) hc⟩ (VRL.drop hv _))
      · cases h

theorem run_mapM_fields {P : Program} {T : TypeId → Option TyD} (hT : TabOk P T) {w : World} : ∀ (fs : List Field), (∀ f ∈ fs, (T f.type).isSome = true) →
    (fs.mapM (fun f => do pure (f.offset, ← sizeOf f.type) : Field → Sem (Nat × Nat))).run P w = .ok (fs.map fun f => (f.offset, ((T f.type).map (·.size)).getD 0)) w
  | [], _ => by simp
  | f :: fs, h => by
    have hf := h f (by simp)
    obtain ⟨d, hd⟩ := Option.isSome_iff_exists.1 hf
    have ih := run_mapM_fields hT (w := w) fs fun g hg => h g (by simp [hg])
    simp only [List.mapM_cons, Sem.run_bind, (hT _ _ hd).runS, Result.andThen_ok, Sem.run_pure, ih, List.map_cons, hd, Option.map_some, Option.getD_some]

theorem run_buildStruct {P : Program} {T : TypeId → Option TyD} (hT : TabOk P T) {io : Keys} {F : Nat → Prop} {w : World} {t : TypeId} {td : TyD} (ht : T t = some td) {fs : Array Field} (hd : td.desc = .struct fs) (ha : allTyped T fs = true) {z : List D} (hz : D.ofV td.zero = .agg z)
    {parts : List (Nat × V)} {cells : List V} (hf : fillD (structPlaces T fs) (z.map V.d) parts = some cells) {vals : Array (Nat × Value)} (hl : vals.toList.length = parts.length) (hx : ∀ (j i : Nat) (x : V) (v : Value) (i' : Nat), parts[j]? = some (i, x) → vals.toList[j]? = some (i', v) → i' = i ∧ VR io F w x v) :
    ∃ v, (Instr.build t vals).run P w = .ok v w ∧ VR io F w (mkAgg cells) v := by
  have hto := hT _ _ ht
  have hall : ∀ f ∈ fs.toList, (T f.type).isSome = true := fun f hf => by
    exact List.all_eq_true.1 ha f hf
  have hm := run_mapM_fields hT (w := w) fs.toList hall
  have hzero : DR F w (D.ofV td.zero) td.zero := DR.ofV F w td.zero
  rw [hz] at hzero
  simp only [DR] at hzero
  obtain ⟨arr, e, hzs, hzl⟩ := hzero
  have hfill := fill_sound (io := io) (F := F) (w := w) (place := structPlaces T fs) (place' := fun i => (fs.toList.map fun f => (f.offset, ((T f.type).map (·.size)).getD 0)).toArray[i]?) (fun i p hp => by
    unfold structPlaces at hp
    split at hp
    · rename_i f hfi
      split at hp
      · rename_i fd hfd
        simp at hp; subst hp
        simp [hfi, hfd]
      · cases hp
    · cases hp) parts vals.toList _ cells arr hf (VRL.toV hzs hzl) hl hx
  obtain ⟨cells', hc1, hc2⟩ := hfill
  refine ⟨.agg cells', ?_, VR.mkAgg (by simpa using hc2.1) (VRA.congr (fun i _ => by simp) hc2.2)⟩
  have hma : (fs.mapM (fun f => do pure (f.offset, ← sizeOf f.type) : Field → Sem (Nat × Nat))).run P w = .ok (fs.toList.map fun f => (f.offset, ((T f.type).map (·.size)).getD 0)).toArray w := by
    rw [Array.mapM_eq_mapM_toList]
    simp only [Sem.run_map, hm, Result.andThen_ok]
  have ev : td.zero.cells = arr := by rw [e]; rfl
  simp only [Instr.build, Sem.run_bind, hto.runZ, Result.andThen_ok, hto.runU, hd, Sem.run_pure]
  rw [hma]
  simp only [Result.andThen_ok, ev, hc1]
  rfl

theorem yields_of {P : Program} {w : World} {m : Sem Value} {v : Value} (h : m.run P w = .ok v w) : (do pure (Next.value (← m)) : Sem Next).run P w = .ok (.value v) w := by
  simp [h]

theorem optI_sound {io : Keys} {F : Nat → Prop} {w : World} {s : St} {ev : Operand → Value} {lo : Option Operand} {l : Option Int} (ho : ∀ y, lo = some y → VR io F w (s.opd y) (ev y)) (h : optI s lo = some l) : (lo.map ev = none ∧ l = none) ∨ ∃ k n, lo.map ev = some (.int k n) ∧ l = some n := by
  cases lo with
  | none => simp only [optI, Option.some.injEq] at h; subst h; exact .inl ⟨rfl, rfl⟩
  | some y =>
    simp only [optI] at h
    split at h
    · rename_i n hn
      simp only [Option.some.injEq] at h; subst h
      obtain ⟨k, hk⟩ := intOfV_sound hn (ho y rfl)
      exact .inr ⟨k, n, by simp [hk], rfl⟩
    · cases h

theorem V.one_cells {x : V} (h : x.one = true) : x.storable = true ∧ x.cells = [x] := by
  cases x with
  | d x => cases x <;> first | exact ⟨h, rfl⟩ | cases h
  | own k o n ty sz => exact ⟨rfl, rfl⟩
  | ptr k o => exact ⟨rfl, rfl⟩
  | eptr k sz i f => exact ⟨rfl, rfl⟩
  | agg cs => cases h
  | tup cs => cases h
  | fn f cs => exact ⟨rfl, rfl⟩
theorem VR.one {io : Keys} {F : Nat → Prop} {w : World} {x : V} {v : Value} (h1 : x.one = true) (h : VR io F w x v) : v.oneCell' = true := by
  obtain ⟨hs, hc⟩ := V.one_cells h1
  obtain ⟨g1, g2⟩ := VR.cells hs h
  rw [hc] at g1 g2
  simp only [VRA] at g2
  obtain ⟨⟨u, hu, ho, _⟩, _⟩ := g2
  cases v <;> first | rfl | skip
  all_goals first | (simp only [Value.cells] at hu; simp at hu; subst hu; exact ho) | skip
  rename_i arr
  exfalso
  cases x with
  | d x =>
    cases x <;> first | (cases h1; done) | (simp only [VR, DR] at h) | skip
    all_goals first | (cases h; done) | (obtain ⟨_, e, _⟩ := h; cases e; done) | (rcases h with ⟨⟨_, e⟩, _⟩ | ⟨_, _, _, _, _, _, e, _⟩ <;> cases e) | (obtain ⟨_, _, _, _, _, e, _⟩ := h; cases e) | (obtain ⟨⟨_, _, e⟩, _⟩ := h; cases e; done) | skip
    subst h; cases h1
  | own k o n ty sz => simp only [VR] at h; rcases h with ⟨_, e, _⟩ | ⟨_, _, _, _, e, _⟩ <;> cases e
  | ptr k o => simp only [VR] at h; obtain ⟨_, _, e⟩ := h; cases e
  | eptr k sz i f => simp only [VR] at h; obtain ⟨_, _, e⟩ := h; cases e
  | agg cs => cases h1
  | tup cs => cases h1
  | fn f cs => simp only [VR] at h; obtain ⟨_, e, _⟩ := h; cases e

set_option maxHeartbeats 1000000 in
theorem evalQ_sound {P : Program} {T : TypeId → Option TyD} (hT : TabOk P T) {A : Nat → Prop} {n0 : Nat} {io : Keys} {F : Nat → Prop} {s : St} {w : World} {ev : Operand → Value} (o : Oper) (ho : ∀ y ∈ o.op.operands.toList, VR io F w (s.opd y) (ev y)) (hb : ∀ k b, s.blk k = some b → BR A n0 io F w k b) {m : Bool} {C : Prop} {x : V} (h : evalQ T m s o.op = some (C, x)) (hC : C) : ∃ v, (execOp ev o).run P w = .ok (.value v) w ∧ VR io F w x v := by
  obtain ⟨dst, op, ty, pos, after, guard⟩ := o
  cases op <;> simp only [evalQ, Op.operands] at h ho <;> try (cases h; done)
  case move y =>
    simp only [Option.some.injEq, Prod.mk.injEq] at h; obtain ⟨rfl, rfl⟩ := h
    exact ⟨ev y, rfl, ho y (by simp)⟩
  case assign y =>
    simp only [Option.some.injEq, Prod.mk.injEq] at h; obtain ⟨rfl, rfl⟩ := h
    exact ⟨ev y, rfl, ho y (by simp)⟩
  case pick c y z =>
    split at h
    · rename_i t hc
      have hb := ho c (by simp)
      have hy := ho y (by simp)
      have hz := ho z (by simp)
      rw [hc] at hb
      simp only [VR, DR] at hb
      have run : (execOp ev ⟨dst, .pick c y z, ty, pos, after, guard⟩).run P w = .ok (.value (if t then ev y else ev z)) w := by simp [execOp, hb, asBool]
      split at h
      · simp only [Option.some.injEq, Prod.mk.injEq] at h; obtain ⟨rfl, rfl⟩ := h
        refine ⟨_, run, ?_⟩
        cases t
        · exact hz
        · exact hy
      · split at h
        · rename_i u v hu hv
          simp only [Option.some.injEq, Prod.mk.injEq] at h; obtain ⟨rfl, rfl⟩ := h
          refine ⟨_, run, ?_⟩
          rw [hu] at hy; rw [hv] at hz
          cases t
          · exact hz
          · exact hy
        · cases h
    · cases h
  case binOp op xt y z yt =>
    split at h
    · rename_i p q dd hp hq hd
      split at h
      · rename_i C' r hb
        simp only [Option.some.injEq, Prod.mk.injEq] at h; obtain ⟨rfl, rfl⟩ := h
        have h1 := ho y (by simp)
        have h2 := ho z (by simp)
        rw [hp] at h1; rw [hq] at h2
        simp only [VR] at h1 h2
        obtain ⟨v, hr, hv⟩ := run_bin (P := P) (by cases m; exact .inr rfl; exact .inl rfl) op xt y z (hT _ _ hd) hC.2 h1 h2 hb hC.1
        exact ⟨v, yields_of hr, by simpa only [VR] using hv⟩
      · cases h
    · cases h
  case unOp op xt y =>
    split at h
    · rename_i p hp
      split at h
      · rename_i C' r hb
        simp only [Option.some.injEq, Prod.mk.injEq] at h; obtain ⟨rfl, rfl⟩ := h
        have h1 := ho y (by simp)
        rw [hp] at h1
        simp only [VR] at h1
        obtain ⟨v, hr, hv⟩ := run_un (P := P) op h1 (by cases m; exact .inr hb; exact .inl hb) hC
        exact ⟨v, yields_of hr, by simpa only [VR] using hv⟩
      · cases h
    · cases h
  case convert src dst' y =>
    split at h
    · rename_i sd dd k n h1 h2 h3
      split at h
      · rename_i k' hk
        have hy := ho y (by simp)
        rw [h3] at hy
        simp only [VR, DR] at hy
        have hu := (hT _ _ h2).runU w
        rw [hk] at hu
        have run : (execOp ev ⟨dst, .convert src dst' y, ty, pos, after, guard⟩).run P w = .ok (.value (.int k' (k'.wrap n))) w := by
          refine yields_of ?_
          simp only [convert, Sem.run_bind, (hT _ _ h1).runU, hu, hy, Result.andThen_ok]
          rfl
        refine ⟨_, run, ?_⟩
        split at h <;> simp only [Option.some.injEq, Prod.mk.injEq] at h <;> obtain ⟨rfl, rfl⟩ := h <;> simp only [VR, DR]
        · rw [wrap_lim hC]
        · rename_i c hc; rw [wrap_rest _ hc]
      · cases h
    · rename_i sd dd b h1 h2 h3
      split at h
      · rename_i hk
        simp only [Option.some.injEq, Prod.mk.injEq] at h; obtain ⟨rfl, rfl⟩ := h
        have hy := ho y (by simp)
        rw [h3] at hy
        simp only [VR, DR] at hy
        have hu := (hT _ _ h2).runU w
        rw [hk] at hu
        refine ⟨.string ⟨b.toArray⟩, yields_of ?_, by simp only [VR, DR]⟩
        simp only [convert, Sem.run_bind, (hT _ _ h1).runU, hu, hy, Result.andThen_ok]
        cases sd.desc <;> rfl
      · cases h
    · cases h
  case field t y f =>
    split at h
    · rename_i td h1
      split at h
      · rename_i fs hf
        split at h
        · rename_i fd hfd
          split at h
          · rename_i dd hdd
            have hu := (hT _ _ h1).runU w
            rw [hf] at hu
            have hy := ho y (by simp)
            split at h
            · rename_i cs hcs
              rw [hcs] at hy
              simp only [VR, DR] at hy
              obtain ⟨arr, e, hl, hy⟩ := hy
              split at h
              · rename_i u hu'
                simp only [Option.some.injEq, Prod.mk.injEq] at h; obtain ⟨rfl, rfl⟩ := h
                obtain ⟨v, hr, hv⟩ := partD_sound (P := P) (hT _ _ hdd) hl hy hu'
                refine ⟨v, yields_of ?_, by simpa only [VR] using hv⟩
                simp only [Instr.field, Sem.run_bind, hu, Result.andThen_ok, hfd, e, asAgg, Sem.run_pure, hr]
              · cases h
            · rename_i cs hcs
              rw [hcs] at hy
              simp only [VR] at hy
              obtain ⟨arr, e, hl, hy⟩ := hy
              split at h
              · rename_i u hu'
                simp only [Option.some.injEq, Prod.mk.injEq] at h; obtain ⟨rfl, rfl⟩ := h
                obtain ⟨v, hr, hv⟩ := partV_sound (P := P) (hT _ _ hdd) hl hy hu'
                refine ⟨v, yields_of ?_, hv⟩
                simp only [Instr.field, Sem.run_bind, hu, Result.andThen_ok, hfd, e, asAgg, Sem.run_pure, hr]
              · cases h
            · cases h
          · cases h
        · cases h
      · cases h
    · cases h
  case fieldAddr t y f =>
    split at h
    · rename_i td h1
      split at h
      · rename_i fs hf
        split at h
        · rename_i fd hfd
          split at h
          · rename_i dd hdd
            split at h
            · cases h
            · rename_i hz
              have hz : ¬ dd.size = 0 := fun e => by rw [e] at hz; cases hz
              have hu := (hT _ _ h1).runU w
              rw [hf] at hu
              have run : ∀ b o, ev y = .pointer (some ⟨b, o, none⟩) → (Instr.fieldAt t (ev y) f).run P w = .ok (.pointer (some ⟨b, o + fd.offset, none⟩)) w := fun b o e => by
                simp only [Instr.fieldAt, Sem.run_bind, hu, Result.andThen_ok, hfd, e, Instr.sureAddr, Sem.run_pure, fieldPlace, (hT _ _ hdd).runS, if_neg hz, add_plain]
              have hy := ho y (by simp)
              split at h
              · rename_i k o hk
                simp only [Option.some.injEq, Prod.mk.injEq] at h; obtain ⟨rfl, rfl⟩ := h
                rw [hk] at hy
                simp only [VR] at hy
                obtain ⟨b, hb, e⟩ := hy
                exact ⟨_, yields_of (run b o e), by simp only [VR, plus0_eq]; exact ⟨b, hb, rfl⟩⟩
              · rename_i k sz i o hk
                simp only [Option.some.injEq, Prod.mk.injEq] at h; obtain ⟨rfl, rfl⟩ := h
                rw [hk] at hy
                simp only [VR] at hy
                obtain ⟨b, hb, e⟩ := hy
                exact ⟨_, yields_of (run b _ e), by simp only [VR, plus0_eq]; exact ⟨b, hb, by rw [Nat.add_assoc]⟩⟩
              · rename_i cs o hk
                simp only [Option.some.injEq, Prod.mk.injEq] at h; obtain ⟨rfl, rfl⟩ := h
                rw [hk] at hy
                simp only [VR, DR] at hy
                obtain ⟨b, off, arr, ty', fz, e, hb, hh, hl⟩ := hy
                exact ⟨_, yields_of (run b _ e), by simp only [VR, DR, plus0_eq]; exact ⟨b, off, arr, ty', fz, by rw [Nat.add_assoc], hb, hh, hl⟩⟩
              · cases h
          · cases h
        · cases h
      · cases h
    · cases h
  case indexAddr t y i =>
    split at h
    · rename_i td n h1 h2
      split at h
      · rename_i e he
        split at h
        · rename_i ed C' j hed hn
          have hu := (hT _ _ h1).runU w
          rw [he] at hu
          obtain ⟨k, hk⟩ := intOfV_sound h2 (ho i (by simp))
          have run : ∀ b off len cap, ev y = .slice (some ⟨b, off, none⟩) len cap → 0 ≤ n → n < len → (Instr.indexAt t (ev y) (ev i)).run P w = .ok (.pointer (some ⟨b, off + n.toNat * ed.size, none⟩)) w := fun b off len cap e h0 h1 => by
            simp only [Instr.indexAt, hk, asIntOf, Sem.run_bind, Sem.run_pure, Result.andThen_ok, hu, e, (hT _ _ hed).runS, add_plain]
            rw [if_pos ⟨h0, h1⟩]
            simp only [Sem.run_bind, (hT _ _ hed).runS, Result.andThen_ok, Sem.run_pure, add_plain]
          have hy := ho y (by simp)
          split at h
          · rename_i sz α en z l hx
            split at h
            · rename_i hsz
              have hsz := Nat.eq_of_beq_eq_true hsz
              subst hsz
              simp only [Option.some.injEq, Prod.mk.injEq] at h; obtain ⟨rfl, rfl⟩ := h
              obtain ⟨c1, c2⟩ := hC
              obtain ⟨g0, g1⟩ := natOf_spec hn c1
              simp only at g1
              rw [hx] at hy
              simp only [VR, DR] at hy
              rcases hy with ⟨_, rfl⟩ | ⟨b, off, cap, arr, ty', fz, e, hc, hb, hh, hl⟩
              · simp at c2
              · obtain ⟨q1, q2⟩ := hl j (l.getD j z) (by rw [List.getElem?_eq_getElem c2, List.getD_eq_getElem?_getD, List.getElem?_eq_getElem c2]; rfl)
                refine ⟨_, yields_of (run b off _ cap e g0 (by omega)), ?_⟩
                simp only [VR, DR]
                exact ⟨b, off + j * ed.size, arr, ty', fz, by rw [g1]; rfl, hb, hh, q2⟩
            · cases h
          · rename_i k' o len ty' sz' hx
            split at h
            · rename_i hsz
              have hsz := Nat.eq_of_beq_eq_true hsz
              subst hsz
              have h : some (C' ∧ j < len, V.eptr k' ed.size (plus0 o j) 0) = some (C, x) := by cases o <;> exact h
              simp only [Option.some.injEq, Prod.mk.injEq] at h; obtain ⟨rfl, rfl⟩ := h
              obtain ⟨c1, c2⟩ := hC
              obtain ⟨g0, g1⟩ := natOf_spec hn c1
              simp only at g1
              rw [hx] at hy
              simp only [VR] at hy
              rcases hy with ⟨_, _, rfl, _⟩ | ⟨b, cap, arr, hb, e, _⟩
              · omega
              · refine ⟨_, yields_of (run b _ len cap e g0 (by omega)), ?_⟩
                simp only [VR, plus0_eq]
                exact ⟨b, hb, by rw [g1, Nat.add_mul]; rfl⟩
            · cases h
          · cases h
        · cases h
      · cases h
    · cases h
  case index t y i =>
    split at h
    · rename_i td n h1 h2
      split at h
      · rename_i C' j hn
        have hu := (hT _ _ h1).runU w
        obtain ⟨k, hk⟩ := intOfV_sound h2 (ho i (by simp))
        have hy := ho y (by simp)
        split at h
        · rename_i b hd hx
          simp only [Option.some.injEq, Prod.mk.injEq] at h; obtain ⟨rfl, rfl⟩ := h
          obtain ⟨c1, c2⟩ := hC
          obtain ⟨g0, g1⟩ := natOf_spec hn c1
          simp only at g1
          rw [hd] at hu
          rw [hx] at hy
          simp only [VR, DR] at hy
          refine ⟨.int .u8 (b.getD j 0).toNat, yields_of ?_, by simp only [VR, DR]⟩
          simp only [Instr.index, hk, asIntOf, Sem.run_bind, Sem.run_pure, Result.andThen_ok, hu, hy]
          have hg : (⟨b.toArray⟩ : ByteArray)[n.toNat]? = some (b.getD j 0) := by
            rw [g1, getElem?_pos _ j (by rw [size_mk]; exact c2)]
            congr 1
            rw [List.getD_eq_getElem?_getD, List.getElem?_eq_getElem c2]
            rfl
          rw [if_pos g0, hg]
          rfl
        · rename_i len e cs hd hx
          split at h
          · rename_i ed hed
            split at h
            · rename_i u hu'
              simp only [Option.some.injEq, Prod.mk.injEq] at h; obtain ⟨rfl, rfl⟩ := h
              obtain ⟨c1, c2⟩ := hC
              obtain ⟨g0, g1⟩ := natOf_spec hn c1
              simp only at g1
              rw [hd] at hu
              rw [hx] at hy
              simp only [VR, DR] at hy
              obtain ⟨arr, e', hl, hy⟩ := hy
              obtain ⟨v, hr, hv⟩ := partD_sound (P := P) (hT _ _ hed) hl hy hu'
              refine ⟨v, yields_of ?_, by simpa only [VR] using hv⟩
              simp only [Instr.index, hk, asIntOf, Sem.run_bind, Sem.run_pure, Result.andThen_ok, hu, e']
              rw [if_pos ⟨g0, by omega⟩]
              simp only [Sem.run_bind, (hT _ _ hed).runS, Result.andThen_ok, g1, hr]
            · cases h
          · cases h
        · cases h
      · cases h
    · cases h
  case load t y =>
    have hy := ho y (by simp)
    split at h
    · rename_i td k o h1 h2
      rw [h2] at hy
      simp only [VR] at hy
      obtain ⟨b, hb', e⟩ := hy
      split at h
      · rename_i ty' cs hk
        split at h
        · rename_i u hu
          simp only [Option.some.injEq, Prod.mk.injEq] at h; obtain ⟨rfl, rfl⟩ := h
          have hbr := hb k _ hk
          simp only [BR] at hbr
          obtain ⟨b', arr, g1, _, _, hh, hr⟩ := hbr
          rw [g1] at hb'; cases hb'
          obtain ⟨v, hv, hd⟩ := takeV_sound (P := P) (hT _ _ h1) hh hr hu
          refine ⟨v, yields_of ?_, hd⟩
          simpa only [Instr.loadAt, e, Instr.sureAddr, Sem.run_bind, Sem.run_pure, Result.andThen_ok, Nat.zero_add] using hv
        · cases h
      · cases h
    · rename_i td k sz i o h1 h2
      rw [h2] at hy
      simp only [VR] at hy
      obtain ⟨b, hb', e⟩ := hy
      split at h
      · rename_i ty' sz' α en z l hk
        split at h
        · rename_i hsz
          have hsz := Nat.eq_of_beq_eq_true hsz
          subst hsz
          split at h
          · rename_i u hu
            simp only [Option.some.injEq, Prod.mk.injEq] at h; obtain ⟨rfl, rfl⟩ := h
            have hbr := hb k _ hk
            simp only [BR] at hbr
            rcases hbr with ⟨_, rfl⟩ | ⟨b', arr, g1, _, _, hh, hr⟩
            · simp at hC
            · rw [g1] at hb'; cases hb'
              obtain ⟨q1, q2⟩ := hr i (l.getD i z) (by rw [List.getElem?_eq_getElem hC, List.getD_eq_getElem?_getD, List.getElem?_eq_getElem hC]; rfl)
              rw [Nat.zero_add] at q2
              obtain ⟨v, hv, hd⟩ := takeD_sound (P := P) (hT _ _ h1) hh q2 hu
              refine ⟨v, yields_of ?_, by simpa only [VR] using hd⟩
              simpa only [Instr.loadAt, e, Instr.sureAddr, Sem.run_bind, Sem.run_pure, Result.andThen_ok] using hv
          · cases h
        · cases h
      · rename_i ty' sz' α en z l i' vv hk
        split at h
        · rename_i hsz
          have hsz := Nat.eq_of_beq_eq_true hsz
          subst hsz
          have hbr := hb k _ hk
          simp only [BR] at hbr
          obtain ⟨b', arr, g1, _, _, hh, hr0, hr1, u, hr2, hr3, hr4⟩ := hbr
          rw [g1] at hb'; cases hb'
          split at h
          · split at h
            · rename_i hm
              simp only [Option.some.injEq, Prod.mk.injEq] at h; obtain ⟨rfl, rfl⟩ := h
              subst hC
              refine ⟨u, yields_of ?_, hr4⟩
              have := run_loadOne (P := P) (o := i * sz + 0) (hT _ _ h1) hm hh (v := u) (by rw [hr1, Nat.mul_one, Nat.add_zero]; exact hr2)
              simpa only [Instr.loadAt, e, Instr.sureAddr, Sem.run_bind, Sem.run_pure, Result.andThen_ok] using this
            · cases h
          · split at h
            · rename_i y hy
              simp only [Option.some.injEq, Prod.mk.injEq] at h; obtain ⟨rfl, rfl⟩ := h
              obtain ⟨q1, q2⟩ := hr0 i (l.getD i z) hC.2 (by rw [List.getElem?_eq_getElem hC.1, List.getD_eq_getElem?_getD, List.getElem?_eq_getElem hC.1]; rfl)
              obtain ⟨v, hv, hd⟩ := takeD_sound (P := P) (hT _ _ h1) hh q2 hy
              refine ⟨v, yields_of ?_, by simpa only [VR] using hd⟩
              simpa only [Instr.loadAt, e, Instr.sureAddr, Sem.run_bind, Sem.run_pure, Result.andThen_ok] using hv
            · cases h
        · cases h
      · cases h
    · rename_i td cs o h1 h2
      split at h
      · rename_i u hu
        simp only [Option.some.injEq, Prod.mk.injEq] at h; obtain ⟨rfl, rfl⟩ := h
        rw [h2] at hy
        simp only [VR, DR] at hy
        obtain ⟨b, off, arr, ty', fz, e, hb, hh, hl⟩ := hy
        obtain ⟨v, hv, hd⟩ := takeD_sound (P := P) (hT _ _ h1) hh hl hu
        refine ⟨v, yields_of ?_, by simpa only [VR] using hd⟩
        simpa only [Instr.loadAt, e, Instr.sureAddr, Sem.run_bind, Sem.run_pure, Result.andThen_ok] using hv
      · cases h
    · cases h
  case extract y i =>
    have hy := ho y (by simp)
    split at h
    · rename_i cs hc
      split at h
      · rename_i c hi
        simp only [Option.some.injEq, Prod.mk.injEq] at h; obtain ⟨rfl, rfl⟩ := h
        rw [hc] at hy
        simp only [VR, DR] at hy
        obtain ⟨arr, e, hl, hy⟩ := hy
        rw [headD_spec] at hi
        obtain ⟨v, hv, hd⟩ := DRT_iff.1 hy i c hi
        simp only [Nat.zero_add] at hv
        refine ⟨v, yields_of ?_, by simpa only [VR] using hd⟩
        simp [Instr.extract, e, hv]
      · cases h
    · rename_i cs hc
      split at h
      · rename_i c hi
        simp only [Option.some.injEq, Prod.mk.injEq] at h; obtain ⟨rfl, rfl⟩ := h
        rw [hc] at hy
        simp only [VR] at hy
        obtain ⟨arr, e, hl, hy⟩ := hy
        rw [headV_spec] at hi
        obtain ⟨v, hv, hd⟩ := VRT_iff.1 hy i c hi
        simp only [Nat.zero_add] at hv
        refine ⟨v, yields_of ?_, hd⟩
        simp [Instr.extract, e, hv]
      · cases h
    · cases h
  case slice t y lo hi mx =>
    split at h
    · rename_i td h1
      have hy := ho y (by simp)
      have o1 : ∀ z, lo = some z → VR io F w (s.opd z) (ev z) := fun z e => ho z (by simp [e])
      have o2 : ∀ z, hi = some z → VR io F w (s.opd z) (ev z) := fun z e => ho z (by simp [e])
      have o3 : ∀ z, mx = some z → VR io F w (s.opd z) (ev z) := fun z e => ho z (by simp [e])
      split at h
      · rename_i e hd
        split at h
        · rename_i ed hed
          split at h
          · rename_i l h' g e1 e2 e3
            obtain ⟨u, hr, hv⟩ := sliceQ_sound (P := P) (hT _ _ h1) hd (hT _ _ hed) hy (lo.map ev) (hi.map ev) (mx.map ev) l h' g (optI_sound o1 e1) (optI_sound o2 e2) (optI_sound o3 e3) h hC
            exact ⟨u, yields_of hr, hv⟩
          · cases h
        · cases h
      · rename_i hd
        split at h
        · rename_i b l h' hx e1 e2
          rw [hx] at hy
          simp only [VR, DR] at hy
          obtain ⟨u, hr, hv⟩ := strQ_sound (P := P) (io := io) (F := F) (w := w) (hT _ _ h1) hd (lo.map ev) (hi.map ev) l h' (optI_sound o1 e1) (optI_sound o2 e2) h hC
          refine ⟨u, yields_of ?_, hv⟩
          rw [hy]; exact hr
        · cases h
      · cases h
    · cases h
  case nilCheck y =>
    have hy := ho y (by simp)
    split at h <;> (try (cases h; done)) <;> rename_i hk <;> simp only [Option.some.injEq, Prod.mk.injEq] at h <;> obtain ⟨rfl, rfl⟩ := h <;> rw [hk] at hy
    · have h2 := hy
      simp only [VR] at h2
      obtain ⟨b, _, e⟩ := h2
      exact ⟨ev y, by simp [execOp, e], hy⟩
    · have h2 := hy
      simp only [VR] at h2
      obtain ⟨b, _, e⟩ := h2
      exact ⟨ev y, by simp [execOp, e], hy⟩
    · have h2 := hy
      simp only [VR, DR] at h2
      obtain ⟨b, off, arr, ty', fz, e, _⟩ := h2
      exact ⟨ev y, by simp [execOp, e], hy⟩
  case build t parts =>
    split at h
    · rename_i td h1
      split at h
      · rename_i fs hf
        split at h
        · rename_i z ha hz
          split at h
          · rename_i cells hc
            rw [openL_eq] at h
            simp only [Option.some.injEq, Prod.mk.injEq] at h; obtain ⟨rfl, rfl⟩ := h
            obtain ⟨v, hr, hv⟩ := run_buildStruct (P := P) (io := io) (F := F) (w := w) hT h1 hf ha hz hc (vals := parts.map fun (i, x) => (i, ev x)) (by simp) (fun j i x v i' hp hq => by
              simp only [List.getElem?_map, Array.toList_map, Option.map_eq_some_iff] at hp hq
              obtain ⟨p, hp1, hp2⟩ := hp
              obtain ⟨q, hq1, hq2⟩ := hq
              rw [hp1] at hq1
              cases hq1
              cases hp2
              cases hq2
              exact ⟨rfl, ho _ (by simp only [List.mem_map]; exact ⟨p, List.mem_of_getElem? hp1, rfl⟩)⟩)
            exact ⟨v, yields_of hr, hv⟩
          · cases h
        · cases h
      · cases h
    · cases h
  case makeFunc fn first captured =>
    cases fn <;> simp only at h <;> try (cases h; done)
    rename_i f
    split at h
    · rename_i hf
      have hf : first = #[] := by cases first; simpa using hf
      subst hf
      have hcap : ∀ i c, (captured.toList.map s.opd)[i]? = some c → ∃ v, (captured.map ev)[0 + i]? = some v ∧ VR io F w c v := fun i c hi => by
        rw [List.getElem?_map, Option.map_eq_some_iff] at hi
        obtain ⟨y, hy, rfl⟩ := hi
        refine ⟨ev y, by simpa [Nat.zero_add] using ⟨y, by simpa using hy, rfl⟩, ho y ?_⟩
        simp only [Array.toList_append, List.nil_append]
        exact List.mem_of_getElem? hy
      have run : (execOp ev ⟨dst, .makeFunc (.func f) #[] captured, ty, pos, after, guard⟩).run P w = .ok (.value (.func (.func f) #[] (captured.map ev))) w := by simp [execOp, Instr.makeFunc]
      refine ⟨_, run, ?_⟩
      split at h
      · rename_i ds hds
        split at h
        · rename_i hall
          simp only [Option.some.injEq, Prod.mk.injEq] at h; obtain ⟨rfl, rfl⟩ := h
          have hm := allD_map hds
          simp only [VR, DR]
          refine ⟨_, rfl, by have := congrArg List.length hm; simpa using this, ?_⟩
          rw [DRA_iff]
          intro i c hi
          obtain ⟨v, g1, g2⟩ := hcap i (.d c) (by rw [hm, List.getElem?_map, hi]; rfl)
          exact ⟨v, g1, VR.one (List.all_eq_true.1 hall c (List.mem_of_getElem? hi)) g2, by simpa only [VR] using g2⟩
        · cases h
      · split at h
        · rename_i hall
          rw [openL_eq] at h
          simp only [Option.some.injEq, Prod.mk.injEq] at h; obtain ⟨rfl, rfl⟩ := h
          simp only [VR]
          refine ⟨_, rfl, by simp, ?_⟩
          rw [VRA_iff]
          intro i c hi
          obtain ⟨v, g1, g2⟩ := hcap i c hi
          exact ⟨v, g1, VR.one (List.all_eq_true.1 hall c (List.mem_of_getElem? hi)) g2, g2⟩
        · cases h
    · cases h
  case call c =>
    obtain ⟨callee, args, argTypes⟩ := c
    simp only at h
    split at h
    · rename_i y t hargs htys
      have ha : args = #[y] := by cases args; simpa using hargs
      subst ha
      have hy := ho y (by simp [Call.operands])
      have run : ∀ n : Nat, (Builtin.len_ argTypes ty #[ev y]).run P w = .ok (.int .i64 n) w → (execOp ev ⟨dst, .call ⟨.builtin .len, #[y], argTypes⟩, ty, pos, after, guard⟩).run P w = .ok (.value (.int .i64 n)) w := fun n hn => by
        simp [execOp, resolve, invoke, builtin, hn]
      have htt : argTypes[0]? = some t := htys
      have hgd : argTypes.getD 0 0 = t := by rw [Array.getD_eq_getD_getElem?, htt]; rfl
      split at h
      · rename_i td b htd hx
        split at h
        · rename_i hd
          simp only [Option.some.injEq, Prod.mk.injEq] at h; obtain ⟨rfl, rfl⟩ := h
          rw [hx] at hy; simp only [VR, DR] at hy
          refine ⟨.int .i64 b.length, run _ ?_, by simp only [VR, DR]⟩
          have hu := (hT _ _ htd).runU w
          rw [hd] at hu
          simp [Builtin.len_, htt, hu, hy, size_mk]; try rfl
        · cases h
      · rename_i td sz α en z l htd hx
        split at h
        · rename_i hd
          simp only [Option.some.injEq, Prod.mk.injEq] at h; obtain ⟨rfl, rfl⟩ := h
          rw [hx] at hy; simp only [VR, DR] at hy
          refine ⟨.int .i64 l.length, run _ ?_, by simp only [VR, DR]⟩
          have hu := (hT _ _ htd).runU w
          rw [hd] at hu
          rcases hy with ⟨⟨p, e⟩, rfl⟩ | ⟨b, off, cap, arr, ty', fz, e, _⟩
          · simp [Builtin.len_, htt, hu, e]; try rfl
          · simp [Builtin.len_, htt, hu, e]; try rfl
        · cases h
      · rename_i td htd hx
        split at h
        · rename_i hd
          simp only [Option.some.injEq, Prod.mk.injEq] at h; obtain ⟨rfl, rfl⟩ := h
          rw [hx] at hy; simp only [VR, DR] at hy
          refine ⟨.int .i64 ((0 : Nat) : Int), run 0 ?_, by simp only [VR, DR]; rfl⟩
          have hu := (hT _ _ htd).runU w
          rw [hd] at hu
          simp [Builtin.len_, htt, hu, hy]; try rfl
        · cases h
      · rename_i td k o n ty' sz htd hx
        split at h
        · rename_i hd
          simp only [Option.some.injEq, Prod.mk.injEq] at h; obtain ⟨rfl, rfl⟩ := h
          rw [hx] at hy; simp only [VR] at hy
          refine ⟨.int .i64 n, run _ ?_, by simp only [VR, DR]⟩
          have hu := (hT _ _ htd).runU w
          rw [hd] at hu
          rcases hy with ⟨_, e, rfl, _⟩ | ⟨b, cap, arr, _, e, _⟩
          · simp [Builtin.len_, htt, hu, e]; try rfl
          · simp [Builtin.len_, htt, hu, e]; try rfl
        · cases h
      · cases h
    · rename_i y z hargs
      have ha : args = #[y, z] := by cases args; simpa using hargs
      subst ha
      have hy := ho y (by simp [Call.operands])
      have hz := ho z (by simp [Call.operands])
      split at h
      · rename_i k a k' b h1 h2
        simp only [Option.some.injEq, Prod.mk.injEq] at h; obtain ⟨rfl, rfl⟩ := h
        rw [h1] at hy; rw [h2] at hz; simp only [VR, DR] at hy hz
        refine ⟨.int k (max a b), ?_, by simp only [VR, DR]⟩
        have e : (if b > a then b else a) = max a b := by split <;> omega
        have e' : (if b > a then Value.int k b else Value.int k a) = .int k (max a b) := by rw [← e]; split <;> rfl
        simp [execOp, resolve, invoke, builtin, Builtin.max_, hy, hz, Builtin.max2]
        try omega
      · cases h
    · rename_i y z hargs
      have ha : args = #[y, z] := by cases args; simpa using hargs
      subst ha
      have hy := ho y (by simp [Call.operands])
      have hz := ho z (by simp [Call.operands])
      split at h
      · rename_i k a k' b h1 h2
        simp only [Option.some.injEq, Prod.mk.injEq] at h; obtain ⟨rfl, rfl⟩ := h
        rw [h1] at hy; rw [h2] at hz; simp only [VR, DR] at hy hz
        refine ⟨.int k (min a b), ?_, by simp only [VR, DR]⟩
        have e : (if b < a then b else a) = min a b := by split <;> omega
        have e' : (if b < a then Value.int k b else Value.int k a) = .int k (min a b) := by rw [← e]; split <;> rfl
        simp [execOp, resolve, invoke, builtin, Builtin.min_, hy, hz, Builtin.min2]
        try omega
      · cases h
    · cases h
end Go.Vw
