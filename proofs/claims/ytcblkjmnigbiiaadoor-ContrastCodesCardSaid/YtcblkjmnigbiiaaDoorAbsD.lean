/-
  What evalQ says of an operation is what the machine does. Conditions: the table of types is the program's.
-/
import Derived.Test.YtcblkjmnigbiiaaDoorAbsC
set_option autoImplicit false
namespace Go.Ab
open Go.RowKit

/-- Some cells written into a row, one by one. -/
theorem foldl_put (off : Nat) : ∀ (l : List Value) (i : Nat) (cs : Array Value), off + i + l.length ≤ cs.size →
    ((l.zipIdx i).foldl (fun cs (p : Value × Nat) => cs.setIfInBounds (off + p.2) p.1) cs).toList = cs.toList.take (off + i) ++ (l ++ cs.toList.drop (off + i + l.length))
  | [], i, cs, _ => by simp
  | v :: l, i, cs, h => by
    simp only [List.zipIdx_cons, List.foldl_cons]
    rw [foldl_put off l (i + 1) _ (by simp at h ⊢; omega)]
    simp only [Array.toList_setIfInBounds, List.length_cons] at h ⊢
    rw [List.set_eq_take_append_cons_drop, if_pos (by simp; omega)]
    have hA : (cs.toList.take (off + i)).length = off + i := by simp; omega
    have h1 : (cs.toList.take (off + i) ++ v :: cs.toList.drop (off + i + 1)).take (off + (i + 1)) = cs.toList.take (off + i) ++ [v] := by
      rw [List.take_append, hA, List.take_of_length_le (by omega), show off + (i + 1) - (off + i) = 1 by omega]
      rfl
    have h2 : (cs.toList.take (off + i) ++ v :: cs.toList.drop (off + i + 1)).drop (off + (i + 1) + l.length) = cs.toList.drop (off + i + (l.length + 1)) := by
      rw [List.drop_append, hA, List.drop_eq_nil_of_le (by omega), show off + (i + 1) + l.length - (off + i) = l.length + 1 by omega, List.drop_succ_cons, List.drop_drop, List.nil_append]
      congr 1
      omega
    rw [h1, h2]
    simp

theorem foldl_put' (off : Nat) (v : Array Value) (cs : Array Value) (h : off + v.size ≤ cs.size) :
    (v.zipIdx.foldl (fun cs (p : Value × Nat) => cs.setIfInBounds (off + p.2) p.1) cs).toList = cs.toList.take off ++ (v.toList ++ cs.toList.drop (off + v.size)) := by
  have := foldl_put off v.toList 0 cs (by simpa using h)
  rw [← Array.foldl_toList]
  simpa using this

theorem fill_sound {io : Nat → Option Nat} {F : Nat → Prop} {w : World} {place place' : Nat → Option (Nat × Nat)} (hp : ∀ i p, place i = some p → place' i = some p) :
    ∀ (parts : List (Nat × V)) (vals : List (Nat × Value)) (cs cs' : List V) (cells : Array Value), fillV place cs parts = some cs' → VRL io F w cs cells.toList →
      vals.length = parts.length → (∀ (j i : Nat) (x : V) (v : Value) (i' : Nat), parts[j]? = some (i, x) → vals[j]? = some (i', v) → i' = i ∧ VR io F w x v) →
      ∃ cells', Instr.fill place' cells vals = some cells' ∧ VRL io F w cs' cells'.toList
  | [], vals, cs, cs', cells, h, hv, hl, _ => by
    simp [fillV] at h; subst h
    have : vals = [] := by simpa using hl
    subst this
    exact ⟨cells, rfl, hv⟩
  | (i, x) :: parts, [], cs, cs', cells, h, hv, hl, hx => by simp at hl
  | (i, x) :: parts, (i', v) :: vals, cs, cs', cells, h, hv, hl, hx => by
    obtain ⟨rfl, hxv⟩ := hx 0 i x v i' (by simp) (by simp)
    simp only [fillV] at h
    split at h
    · cases h
    · rename_i off size hpl
      split at h
      · rename_i hok
        simp only [Bool.and_eq_true] at hok
        obtain ⟨⟨hst, hsz⟩, hb⟩ := hok
        have hsz := Nat.eq_of_beq_eq_true hsz
        have hb := Nat.le_of_ble_eq_true hb
        have hc := VR.cells hst hxv
        have hlen : v.cells.size = size := by have := hc.length; simp at this; omega
        have hcl := hv.length
        simp at hcl
        simp only [Instr.fill, hp i' _ hpl]
        rw [if_neg (by rw [hlen]; simp; omega)]
        refine fill_sound hp parts vals _ cs' _ h ?_ (by simpa using hl) (fun j i x u i' h1 h2 => hx (j + 1) i x u i' (by simpa using h1) (by simpa using h2))
        rw [foldl_put' off v.cells cells (by omega), hlen]
        exact VRL.append (VRL.take _ hv) (VRL.append hc (VRL.drop _ hv))
      · cases h

theorem run_mapM_fields {P : Program} {T : TypeId → Option TyD} (hT : TabOk P T) {w : World} : ∀ (fs : List Field), (∀ f ∈ fs, (T f.type).isSome = true) →
    (fs.mapM (fun f => do pure (f.offset, ← sizeOf f.type) : Field → Sem (Nat × Nat))).run P w = .ok (fs.map fun f => (f.offset, ((T f.type).map (·.size)).getD 0)) w
  | [], _ => by simp
  | f :: fs, h => by
    have hf := h f (by simp)
    obtain ⟨d, hd⟩ := Option.isSome_iff_exists.1 hf
    have ih := run_mapM_fields hT (w := w) fs fun g hg => h g (by simp [hg])
    simp only [List.mapM_cons, Sem.run_bind, (hT _ _ hd).runS, Result.andThen_ok, Sem.run_pure, ih, List.map_cons, hd, Option.map_some, Option.getD_some]

theorem run_buildStruct {P : Program} {T : TypeId → Option TyD} (hT : TabOk P T) {io : Nat → Option Nat} {F : Nat → Prop} {w : World} {t : TypeId} {td : TyD} (ht : T t = some td) {fs : Array Field} (hd : td.desc = .struct fs) (ha : allTyped T fs = true) {z : List D} (hz : D.ofV td.zero = .agg z)
    {parts : List (Nat × V)} {cells : List V} (hf : fillV (structPlaces T fs) (z.map V.d) parts = some cells) {vals : Array (Nat × Value)} (hl : vals.toList.length = parts.length) (hx : ∀ (j i : Nat) (x : V) (v : Value) (i' : Nat), parts[j]? = some (i, x) → vals.toList[j]? = some (i', v) → i' = i ∧ VR io F w x v) :
    ∃ v, (Instr.build t vals).run P w = .ok v w ∧ VR io F w (mkAgg cells) v := by
  have hto := hT _ _ ht
  have hall : ∀ f ∈ fs.toList, (T f.type).isSome = true := fun f hf => by
    exact List.all_eq_true.1 ha f hf
  have hm := run_mapM_fields hT (w := w) fs.toList hall
  have hzero : DR F w (D.ofV td.zero) td.zero := DR.ofV F w td.zero
  rw [hz] at hzero
  simp only [DR] at hzero
  obtain ⟨arr, e, hzl⟩ := hzero
  have hfill := fill_sound (io := io) (F := F) (w := w) (place := structPlaces T fs) (place' := fun i => (fs.toList.map fun f => (f.offset, ((T f.type).map (·.size)).getD 0)).toArray[i]?) (fun i p hp => by
    unfold structPlaces at hp
    split at hp
    · rename_i f hfi
      split at hp
      · rename_i fd hfd
        simp at hp; subst hp
        simp [hfi, hfd]
      · cases hp
    · cases hp) parts vals.toList _ cells arr hf (DRL.toV hzl) hl hx
  obtain ⟨cells', hc1, hc2⟩ := hfill
  refine ⟨.agg cells', ?_, VR.mkAgg hc2⟩
  have hma : (fs.mapM (fun f => do pure (f.offset, ← sizeOf f.type) : Field → Sem (Nat × Nat))).run P w = .ok (fs.toList.map fun f => (f.offset, ((T f.type).map (·.size)).getD 0)).toArray w := by
    rw [Array.mapM_eq_mapM_toList]
    simp only [Sem.run_map, hm, Result.andThen_ok]
  have ev : td.zero.cells = arr := by rw [e]; rfl
  simp only [Instr.build, Sem.run_bind, hto.runZ, Result.andThen_ok, hto.runU, hd, Sem.run_pure]
  rw [hma]
  simp only [Result.andThen_ok, ev, hc1]
  rfl
end Go.Ab
