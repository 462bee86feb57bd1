/-
  A statement of the seat: what its contract is, and the claim. Conditions: as each says.
-/
import Derived.Test.YtlphlodailailaaGreatS60
import Derived.Test.YtlphlodailailaaGreatA08
set_option linter.unusedVariables false
set_option linter.unusedSimpArgs false
set_option maxHeartbeats 8000000
namespace Go.Proofs.YtlphlodailailaaGreat
open Go.Vw
attribute [local irreducible] awp awpL awpR

theorem polynomial_EvalR (l : List R3) (x : R3) (K L : Nat) (hl : l.length ≤ 40) (ho : ∀ r ∈ l, RatOk r K) (hx : RatOk x L) (hK : 1 < K) (hL : 1 < L) (hKL : K + L ≤ 2000) : Ret Tryz.prog 36 [rsD l, rD x] (· = qD (evalP (l.map rv) (rv x))) ∧ okQ 100000 (evalP (l.map rv) (rv x)) := by
  have oq : ∀ y ∈ l.map rv, okQ K y := fun y hy => by
    obtain ⟨r, hr, rfl⟩ := List.mem_map.1 hy
    exact okQ_rv (ho r hr) hK
  have hk : ∀ k, k ≤ l.length → okQ 100000 (hornK (l.map rv) (rv x) k) := fun k hk2 => by
    refine (horn_ok oq (okQ_rv hx hL) hK k (by rw [List.length_map]; exact hk2)).mono ?_
    have := Nat.mul_le_mul (show k ≤ 40 by omega) hKL
    omega
  refine ⟨polynomial_Eval l x (by omega) (fun r hr => (ho r hr).up (by omega)) (hx.up (by omega)) hk, ?_⟩
  have := hk (l.map rv).length (by rw [List.length_map]; omega)
  rwa [horn_all] at this
end Go.Proofs.YtlphlodailailaaGreat
