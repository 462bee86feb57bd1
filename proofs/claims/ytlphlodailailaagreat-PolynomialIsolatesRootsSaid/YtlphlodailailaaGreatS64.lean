/-
  A statement of the seat: what its contract is, and the claim. Conditions: as each says.
-/
import Derived.Test.YtlphlodailailaaGreatS63
import Derived.Test.YtlphlodailailaaGreatA09
import Derived.Test.YtlphlodailailaaGreatA10
set_option linter.unusedVariables false
set_option linter.unusedSimpArgs false
set_option maxHeartbeats 8000000
namespace Go.Proofs.YtlphlodailailaaGreat
open Go.Vw
attribute [local irreducible] awp awpL awpR

theorem numQ2 (v : Int) : okQ 2 (numQ v) := by
  have lm : ∀ n, n < 4294967296 → (limbs n).length < 2 := fun n h => by
    rcases Nat.eq_zero_or_pos n with e | e
    · subst e; rw [limbs_zero]; decide
    · rw [limbs_small (by show n < 4294967296; omega) (by omega)]; simp
  exact okQ_divInt (by omega) (lm _ (by omega)) (lm _ (by omega))
theorem nums2 (l : List Int) (m : Nat) : ∀ q ∈ (l.take m).map numQ, okQ 2 q := fun q hq => by
  obtain ⟨v, _, rfl⟩ := List.mem_map.1 hq
  exact numQ2 v
theorem law05_small (l : List Int) (m : Nat) (hl : l.length ≤ 9223372036854775807) (hx : I64 l) (hm : m ≤ 1000) : Ret Tryz.prog 13 [i64s l, .int .i64 m] (· = qsD ((l.take m).map numQ)) := by
  have h := made_Numbers l m hl hx hm
  generalize (l.take m).map numQ = r at *
  clear hx
  refine ret_of_awp tab Tryz.func13 rfl rfl (Nat.le_of_ble_eq_true rfl) (fun w0 F0 => ?_)
  repeat' (first
    | (show awpL _ _ _ _ _; first | refine goL ?_ | refine cl 24 tt rfl rfl rfl (hr := h) (k := ?_) | (refine gdLG ?_ ?_ <;> intro _ <;> try (exfalso; omega)))
    | (show awp _ _ _ _; first | refine goA ?_ | (refine cdG ?_ ?_ <;> intro _ <;> try (exfalso; omega)))
    | (show andThen _ _ _ _; refine goN ?_)
    | (show inBlock _ _ _ _; refine goB ?_)
    | (show retPost _ _ _ _ _; refine finG ?_))
  rfl
theorem ht2 {p : List Rat} (hp : ∀ x ∈ p, okQ 2 x) {n : Nat} (hl : p.length ≤ n) : HtP (n * 2 + 2) (trimP p) := (HtP.of_ok (by decide) p hp).trim.mono (by omega)
theorem ref05_DegreeQ (p : List Rat) (hp : p.length ≤ 400) (kp : ∀ x ∈ p, okQ 10000000 x) : Ret Tryz.prog 30 [qsD p] (· = .int .i64 (((trimP p).length : Int) - 1)) := by
  have h := ref05_Degree (p.map rq) (by rw [List.length_map]; omega) (rqs_ok kp)
  rw [map_rv_rqL] at h
  exact h.args (leQRs p (LeT.refl _))
end Go.Proofs.YtlphlodailailaaGreat
