/-
  A statement of the seat: what its contract is, and the claim. Conditions: as each says.
-/
import Derived.Test.YtlphlodailailaaGreatY06
import Derived.Test.YtlphlodailailaaGreatA09
import Derived.Test.YtlphlodailailaaGreatA10
set_option linter.unusedVariables false
set_option linter.unusedSimpArgs false
set_option maxHeartbeats 8000000
namespace Go.Proofs.YtlphlodailailaaGreat
open Go.Vw
attribute [local irreducible] awp awpL awpR

def rqL (m : Nat) (v : Nat → Rat) : List R3 := (List.range m).map fun k => rq (v k)
theorem rqL_len (m : Nat) (v : Nat → Rat) : (rqL m v).length = m := by simp [rqL]
theorem rqL_getD {m : Nat} {v : Nat → Rat} {k : Nat} (h : k < m) : (rqL m v).getD k r0 = rq (v k) := by
  simp [rqL, List.getD_eq_getElem?_getD, h]
theorem rqL_set {m : Nat} {v v' : Nat → Rat} {k : Nat} {x : Rat} (h1 : x = v' k) (h2 : ∀ j, j ≠ k → v' j = v j) : (rqL m v).set k (rq x) = rqL m v' := by
  refine List.ext_getElem (by simp [rqL]) fun j g1 g2 => ?_
  simp only [rqL, List.getElem_set, List.getElem_map, List.getElem_range]
  split
  · rename_i e; subst e; rw [h1]
  · rename_i e; rw [h2 j (fun h => e h.symm)]
theorem rqL_zero (m : Nat) {v : Nat → Rat} (h : ∀ k, v k = 0) : List.replicate m r0 = rqL m v := by
  refine List.ext_getElem (by simp [rqL]) fun j g1 g2 => ?_
  simp only [rqL, List.getElem_replicate, List.getElem_map, h]
  decide +kernel
theorem rqL_qs (m : Nat) (v : Nat → Rat) : rqL m v = ((List.range m).map v).map rq := by simp [rqL]
theorem rqL_rv (m : Nat) (v : Nat → Rat) : (rqL m v).map rv = (List.range m).map v := by rw [rqL_qs, map_rv_rqL]
theorem rqL_ok {m : Nat} {v : Nat → Rat} {K : Nat} (h : ∀ k, okQ K (v k)) : ∀ r ∈ rqL m v, RatOk r K := by
  intro r hr
  obtain ⟨k, _, rfl⟩ := List.mem_map.1 hr
  exact ok_rq (h k)
end Go.Proofs.YtlphlodailailaaGreat
