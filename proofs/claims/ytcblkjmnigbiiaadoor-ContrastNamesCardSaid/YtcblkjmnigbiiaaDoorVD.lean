/-
  What evalQ says of an operation is what the machine does. Conditions: the table of types is the program's.
-/
import Derived.Test.YtcblkjmnigbiiaaDoorVC
set_option linter.unusedSimpArgs false
namespace Go.Vw
open Go.RowKit

theorem add_plain (b o j : Nat) : (⟨b, o, none⟩ : Addr).add j = ⟨b, o + j, none⟩ := by
  unfold Addr.add; split <;> simp_all

theorem lt_of_heap {w : World} {b : Nat} {o : Obj} (h : w.heap[b]? = some o) : b < w.heap.size := (Array.getElem?_eq_some_iff.1 h).1

/-- Reading a variable out of a row. -/
theorem run_loadMany {P : Program} {w : World} {t : TypeId} {dd : TyD} (ht : TyOk P t dd) (hm : TypeDesc.many dd.desc = true) {b o : Nat} {arr : Array Value} {ty : TypeId} {fz : Nat × Nat} (hh : w.heap[b]? = some (.cells arr ty fz)) (us : List Value) (hl : us.length = dd.size) (hu : ∀ i, i < dd.size → arr[o + i]? = us[i]?) :
    (loadVar t ⟨b, o, none⟩).run P w = .ok (.agg us.toArray) w := by
  have := run_loadCells_list (P := P) w ⟨b, o, none⟩ us (fun j v hv => by
    have hj : j < us.length := (List.getElem?_eq_some_iff.1 hv).1
    rw [add_plain]
    have := hu j (by omega)
    simp [World.cell?, hh, this, hv])
  rw [hl] at this
  simp only [loadVar, Sem.run_bind, ht.runA, hm, Result.andThen_ok, if_true, ht.runS, this]
  rfl
theorem run_loadOne {P : Program} {w : World} {t : TypeId} {dd : TyD} (ht : TyOk P t dd) (hm : TypeDesc.many dd.desc = false) {b o : Nat} {arr : Array Value} {ty : TypeId} {fz : Nat × Nat} (hh : w.heap[b]? = some (.cells arr ty fz)) {v : Value} (hv : arr[o]? = some v) :
    (loadVar t ⟨b, o, none⟩).run P w = .ok v w := by
  simp only [loadVar, Sem.run_bind, ht.runA, hm, Result.andThen_ok]
  simp [World.cell?, hh, hv]

/-- Some values of a row. -/
theorem row_vals {io : Keys} {F : Nat → Prop} {w : World} {g : Nat → Option Value} {off : Nat} : ∀ {r : List V}, VRA io F w g off r → ∃ us : List Value, us.length = r.length ∧ (∀ i, i < r.length → g (off + i) = us[i]?) ∧ VRA io F w (fun i => us[i]?) 0 r
  | [], _ => ⟨[], rfl, fun i hi => by simp at hi, by simp [VRA]⟩
  | c :: r, h => by
    simp only [VRA] at h
    obtain ⟨⟨v, h1, h2, h3⟩, h4⟩ := h
    obtain ⟨us, g1, g2, g3⟩ := row_vals h4
    refine ⟨v :: us, by simp [g1], fun i hi => ?_, ?_⟩
    · cases i with
      | zero => simpa using h1
      | succ i =>
        have := g2 i (by simpa using hi)
        rw [show off + (i + 1) = off + 1 + i by omega]; simpa using this
    · simp only [VRA]
      refine ⟨⟨v, by simp, h2, h3⟩, ?_⟩
      exact VRA.congr (fun i hi => by simp; rw [Nat.add_comm 1 i]; simp) g3

theorem VRA.seg {io : Keys} {F : Nat → Prop} {w : World} {g : Nat → Option Value} {off o n : Nat} {cs r : List V} (h : VRA io F w g off cs) (e : segV cs o n = some r) : VRA io F w g (off + o) r := by
  obtain ⟨h1, h2⟩ := segV_spec e
  rw [VRA_iff] at h ⊢
  intro i c hi
  have hlt : i < n := h1 ▸ (List.getElem?_eq_some_iff.1 hi).1
  rw [Nat.add_assoc]
  exact h (o + i) c ((h2 i hlt).trans hi)

theorem takeV_sound {P : Program} {io : Keys} {F : Nat → Prop} {w : World} {t : TypeId} {dd : TyD} (ht : TyOk P t dd) {b off o : Nat} {arr : Array Value} {ty : TypeId} {fz : Nat × Nat} {cs : List V} (hh : w.heap[b]? = some (.cells arr ty fz)) (hc : VRA io F w (fun j => arr[j]?) off cs) {y : V} (e : takeV dd cs o = some y) :
    ∃ v, (loadVar t ⟨b, off + o, none⟩).run P w = .ok v w ∧ VR io F w y v := by
  unfold takeV at e
  split at e
  · rename_i hm
    split at e
    · rename_i r hr
      simp only [Option.some.injEq] at e; subst e
      obtain ⟨us, g1, g2, g3⟩ := row_vals (VRA.seg hc hr)
      have hl : us.length = dd.size := g1.trans (segV_spec hr).1
      refine ⟨.agg us.toArray, run_loadMany ht hm hh us hl (fun i hi => g2 i (by rw [(segV_spec hr).1]; exact hi)), VR.mkAgg (by simp [g1]) ?_⟩
      exact VRA.congr (fun i _ => by simp) g3
    · cases e
  · rename_i hm
    rw [headV_spec] at e
    obtain ⟨v, h1, _, h3⟩ := VRA_iff.1 hc o y e
    exact ⟨v, run_loadOne ht hm hh h1, h3⟩

theorem segV_map : ∀ (cs : List D) (o n : Nat), segV (cs.map V.d) o n = (segD cs o n).map (·.map V.d)
  | cs, 0, 0 => by simp [segV, segD]
  | c :: cs, 0, n + 1 => by
    simp only [List.map_cons, segV, segD, segV_map cs 0 n]
    cases segD cs 0 n <;> simp
  | c :: cs, o + 1, n => by simp only [List.map_cons, segV, segD, segV_map cs o n]
  | [], 0, n + 1 => by simp [segV, segD]
  | [], o + 1, n => by simp [segV, segD]
theorem headV_map (cs : List D) (o : Nat) : headV (cs.map V.d) o = (headD cs o).map V.d := by
  rw [headV_spec, headD_spec, List.getElem?_map]
theorem allD_of : ∀ ds : List D, allD (ds.map V.d) = some ds
  | [] => rfl
  | x :: xs => by simp [allD, allD_of xs]
theorem mkAgg_of (ds : List D) : mkAgg (ds.map V.d) = .d (.agg ds) := by simp [mkAgg, allD_of]
theorem segD_all (cs : List D) : segD cs 0 cs.length = some cs := by
  induction cs with
  | nil => rfl
  | cons c cs ih => simp [segD, ih]
theorem takeV_map (dd : TyD) (cs : List D) (o : Nat) {y : D} (h : takeD dd cs o = some y) : takeV dd (cs.map V.d) o = some (.d y) := by
  unfold takeD at h
  unfold takeV
  split at h
  · rename_i hm
    split at h
    · rename_i hb
      simp only [Bool.and_eq_true] at hb
      have h1 := Nat.eq_of_beq_eq_true hb.1
      have h2 := Nat.eq_of_beq_eq_true hb.2
      subst h1
      simp only [Option.some.injEq] at h; subst h
      rw [h2, segV_map, segD_all]
      simp [mkAgg_of]
    · split at h
      · rename_i r hr
        simp only [Option.some.injEq] at h; subst h
        rw [segV_map, hr]
        simp [mkAgg_of]
      · cases h
  · rename_i hm
    rw [headV_map, h]; rfl

theorem takeD_sound {P : Program} {F : Nat → Prop} {w : World} {t : TypeId} {dd : TyD} (ht : TyOk P t dd) {b off o : Nat} {arr : Array Value} {ty : TypeId} {fz : Nat × Nat} {cs : List D} (hh : w.heap[b]? = some (.cells arr ty fz)) (hc : DRA F w (fun j => arr[j]?) off cs) {y : D} (e : takeD dd cs o = some y) :
    ∃ v, (loadVar t ⟨b, off + o, none⟩).run P w = .ok v w ∧ DR F w y v := by
  obtain ⟨v, h1, h2⟩ := takeV_sound (io := ⟨fun _ => none, fun _ => 0⟩) ht hh (DRA.toV hc) (takeV_map dd cs o e)
  exact ⟨v, h1, by simpa only [VR] using h2⟩

theorem partV_sound {P : Program} {io : Keys} {F : Nat → Prop} {w : World} {t : TypeId} {dd : TyD} (ht : TyOk P t dd) {o : Nat} {arr : Array Value} {cs : List V} (hl : arr.size = cs.length) (hc : VRA io F w (fun j => arr[j]?) 0 cs) {y : V} (e : takeV dd cs o = some y) :
    ∃ v, (part t arr o).run P w = .ok v w ∧ VR io F w y v := by
  unfold takeV at e
  split at e
  · rename_i hm
    split at e
    · rename_i r hr
      simp only [Option.some.injEq] at e; subst e
      obtain ⟨s1, s2⟩ := segV_spec hr
      refine ⟨.agg (arr.extract o (o + dd.size)), ?_, ?_⟩
      · simp only [part, Sem.run_bind, ht.runA, hm, Result.andThen_ok, if_true, ht.runS]; rfl
      · have hle : o + dd.size ≤ arr.size ∨ dd.size = 0 := by
          by_cases hz : dd.size = 0
          · exact .inr hz
          · left
            have := s2 (dd.size - 1) (by omega)
            rw [List.getElem?_eq_getElem (show dd.size - 1 < r.length by omega)] at this
            have := (List.getElem?_eq_some_iff.1 this).1
            omega
        refine VR.mkAgg (by simp; omega) ?_
        have hs := VRA.seg hc hr
        refine VRA.congr (fun i hi => ?_) hs
        rw [Array.getElem?_extract]
        simp; intro h; omega
    · cases e
  · rename_i hm
    rw [headV_spec] at e
    obtain ⟨v, h1, _, h3⟩ := VRA_iff.1 hc o y e
    refine ⟨v, ?_, h3⟩
    simp only [Nat.zero_add] at h1
    simp only [part, Sem.run_bind, ht.runA, hm, Result.andThen_ok]
    simp [h1]
theorem partD_sound {P : Program} {F : Nat → Prop} {w : World} {t : TypeId} {dd : TyD} (ht : TyOk P t dd) {o : Nat} {arr : Array Value} {cs : List D} (hl : arr.size = cs.length) (hc : DRA F w (fun j => arr[j]?) 0 cs) {y : D} (e : takeD dd cs o = some y) :
    ∃ v, (part t arr o).run P w = .ok v w ∧ DR F w y v := by
  obtain ⟨v, h1, h2⟩ := partV_sound (io := ⟨fun _ => none, fun _ => 0⟩) ht (by simpa using hl) (DRA.toV hc) (takeV_map dd cs o e)
  exact ⟨v, h1, by simpa only [VR] using h2⟩

theorem intOfV_sound {io : Keys} {F : Nat → Prop} {w : World} {x : V} {n : Int} {v : Value} (h : intOfV x = some n) (hx : VR io F w x v) : ∃ k, v = .int k n := by
  unfold intOfV at h
  split at h
  · simp at h; subst h; simp only [VR, DR] at hx; exact ⟨_, hx⟩
  · cases h
end Go.Vw
