/-
  A statement of the seat: what its contract is, and the claim. Conditions: as each says.
-/
import Derived.Test.YtdbfghgmoigohaaGreatY17
import Derived.Test.YtdbfghgmoigohaaGreatA08
set_option linter.unusedVariables false
set_option linter.unusedSimpArgs false
set_option maxHeartbeats 8000000
namespace Go.Proofs.YtdbfghgmoigohaaGreat
open Go.Vw
attribute [local irreducible] awp awpL awpR

theorem ref05_Sub (p q : List R3) (hp : p.length ≤ 400) (hq : q.length ≤ 400) (kp : ∀ r ∈ p, RatOk r 5000000) (kq : ∀ r ∈ q, RatOk r 4000000) : Ret Tryz.prog 12 [rsD p, rsD q] (· = qsD (trimP (subC (p.map rv) (q.map rv)))) := by
  have f1 := ref03_FromIntW (-1) (by decide) (by decide)
  have s1 := ref05_scaled q (rq ((-1 : Int) : Rat)) 0 hq (by omega) (fun r hr => (kq r hr).up (by decide)) (ok_rq ((ok_intW (by decide)).mono (by decide)))
  rw [rv_rq, show (shiftP 0 (smul ((-1 : Int) : Rat) (q.map rv))) = negC (q.map rv) from rfl] at s1
  have kn : ∀ x ∈ trimP (negC (q.map rv)), okQ 5000000 x := cf_ok fun i => by
    rw [cf_trim, cf_neg]
    refine okQ.neg ?_
    exact (ok_cf (fun x hx => by
      obtain ⟨r, hr, rfl⟩ := List.mem_map.1 hx
      exact okQ_rv (kq r hr) (by decide)) (by decide) i).mono (show 4000000 ≤ 5000000 by decide)
  have ln : (trimP (negC (q.map rv))).length ≤ 500 := by
    have := trim_len (negC (q.map rv))
    have e : (negC (q.map rv)).length = q.length := by show (smul (-1) _).length = _; rw [len_smul, List.length_map]
    omega
  have a1 := ref05_Add p ((trimP (negC (q.map rv))).map rq) (by omega) (by rw [List.length_map]; exact ln) kp (rqs_ok kn)
  rw [map_rv_rqL, show trimP (addC (p.map rv) (trimP (negC (q.map rv)))) = trimP (subC (p.map rv) (q.map rv)) from trim_ext (add_eqv (Eqv.refl _) (trim_eqv _))] at a1
  have a2 : Ret Tryz.prog 10 [rsD p, qsD (trimP (negC (q.map rv)))] (· = qsD (trimP (subC (p.map rv) (q.map rv)))) := a1.args (LeT.cons (LeD.refl _) (leQRs _ (LeT.refl _)))
  generalize trimP (subC (p.map rv) (q.map rv)) = R at *
  generalize trimP (negC (q.map rv)) = S at *
  generalize ((-1 : Int) : Rat) = m1 at *
  clear kp kq a1 kn
  refine ret_of_awp tab Tryz.func12 rfl rfl (Nat.le_of_ble_eq_true rfl) (fun w0 F0 => ?_)
  repeat' (first
    | (show awpL _ _ _ _ _; first | refine goL ?_ | refine cl 19 tt rfl rfl rfl (hr := f1) (k := ?_) | refine cl 26 tt rfl rfl rfl (hr := s1) (k := ?_) | refine cl 10 tt rfl rfl rfl (hr := a2) (k := ?_) | (refine gdLG ?_ ?_ <;> intro _ <;> try (exfalso; omega)))
    | (show awp _ _ _ _; first | refine goA ?_ | (refine cdG ?_ ?_ <;> intro _ <;> try (exfalso; omega)))
    | (show andThen _ _ _ _; refine goN ?_)
    | (show inBlock _ _ _ _; refine goB ?_)
    | (show retPost _ _ _ _ _; refine finG ?_))
  rfl
end Go.Proofs.YtdbfghgmoigohaaGreat
