/-
  A statement of the seat: what its contract is, and the claim. Conditions: as each says.
-/
import Derived.Test.YtlphlodailailaaGreatY28
import Derived.Test.YtlphlodailailaaGreatA10
set_option linter.unusedVariables false
set_option linter.unusedSimpArgs false
set_option maxHeartbeats 8000000
namespace Go.Proofs.YtlphlodailailaaGreat
open Go.Vw
attribute [local irreducible] awp awpL awpR

structure PolOk (p : List Rat) : Prop where
  len : p.length ≤ 8
  ok : ∀ x ∈ p, okQ 100 x
  ctr : trimP p ≠ [] → CtrOk (trimP p) ∧ ∃ M, JS (smallP (ctrQ (trimP p))) (smallP (derP (ctrQ (trimP p)))) M
theorem PolOk.trim {p : List Rat} (h : PolOk p) : PolOk (trimP p) := ⟨Nat.le_trans (trim_len p) h.len, fun x hx => h.ok x (trim_mem hx), by rw [trim_trim]; exact h.ctr⟩
def cntV (p : List Rat) (X : I2) : Int := if trimP p = [] then -1 else cntF (ctr (trimP p)) X.1 X.2
def holdsB (p : List Rat) (X : I2) : Bool := decide (X.1 ≤ X.2) && (if X.1 = X.2 then decide (evalP p X.1 = 0) else decide (cntV p X = 1))
theorem ref05_CountV {p : List Rat} (hp : PolOk p) (x y : Rat) (ox : okQ 150000 x) (oy : okQ 150000 y) : Ret Tryz.prog 23 [qsD p, qD x, qD y] (· = .int .i64 (cntV p (x, y))) := by
  have h := ref05_Count (p.map rq) (rq x) (rq y) (by rw [List.length_map]; have := hp.len; omega) (rqs_ok fun x hx => (hp.ok x hx).mono (by decide)) (by rw [map_rv_rqL]; exact hp.ctr) (ok_rq (ox.mono (by decide))) (ok_rq (oy.mono (by decide)))
  rw [map_rv_rqL, rv_rq, rv_rq] at h
  exact h.args (leQRs p (LeT.refl _))
theorem ref05_EvalV {p : List Rat} (hp : PolOk p) (x : Rat) (ox : okQ 150000 x) : Ret Tryz.prog 48 [qsD p, qD x] (· = qD (evalP p x)) ∧ okQ 2000000 (evalP p x) := by
  have hl := hp.len
  have hk : ∀ k, k ≤ p.length → okQ 2000000 (hornK p x k) := fun k hk => by
    refine (horn_ok hp.ok ox (by decide) k hk).mono ?_
    have := Nat.mul_le_mul_right (100 + 150000) (show k ≤ 8 by omega)
    omega
  have h := ref05_EvalB (p.map rq) (rq x) (by rw [List.length_map]; omega) (rqs_ok fun x hx => (hp.ok x hx).mono (by decide)) (ok_rq (ox.mono (by decide))) (by rw [map_rv_rqL, List.length_map, rv_rq]; exact fun k hk2 => (hk k hk2).mono (by decide))
  rw [map_rv_rqL, rv_rq] at h
  refine ⟨h.args (leQRs p (LeT.refl _)), ?_⟩
  have := hk p.length (Nat.le_refl _)
  rwa [horn_all] at this
theorem ref04_ValidI (X : I2) (oX : okI 150000 X) : Ret Tryz.prog 103 [iQ X] (· = .bool (decide (X.1 ≤ X.2))) := by
  have h := ref04_Valid (rq X.1) (rq X.2) (ok_rq (oX.1.mono (by decide))) (ok_rq (oX.2.mono (by decide)))
  rwa [validR_rq, validR_rq, rv_rq, rv_rq, Bool.true_and, Bool.true_and] at h
theorem ref05_Holds {p : List Rat} (hp : PolOk p) (X : I2) (oX : okI 150000 X) : Ret Tryz.prog 55 [qsD p, iQ X] (· = .bool (holdsB p X)) := by
  have v1 := ref04_ValidI X oX
  have s1 := ref03_SameQ X.1 X.2 (oX.1.mono (by decide)) (oX.2.mono (by decide))
  obtain ⟨e1, oe⟩ := ref05_EvalV hp X.1 oX.1
  have g1 := ref03_SignQ (evalP p X.1) (oe.mono (by decide))
  have c1 := ref05_CountV hp X.1 X.2 oX.1 oX.2
  have z := sign_zero_iff (q := evalP p X.1)
  rw [show cntV p (X.1, X.2) = cntV p X from rfl] at c1
  obtain ⟨h, hh⟩ : ∃ h, holdsB p X = h := ⟨_, rfl⟩
  have hh2 := hh
  rw [hh]
  unfold holdsB at hh
  generalize cntV p X = c at *
  generalize evalP p X.1 = v at *
  by_cases a : X.1 ≤ X.2
  · rw [decide_eq_true a] at v1 hh
    rw [Bool.true_and] at hh
    by_cases b : X.1 = X.2
    · rw [decide_eq_true b] at s1
      rw [if_pos b] at hh
      by_cases d : v = 0
      · rw [decide_eq_true d] at hh
        rw [z.2 d] at g1
        subst hh
        clear hp oX oe z hh2
        refine ret_of_awp tab Tryz.func55 rfl rfl (Nat.le_of_ble_eq_true rfl) (fun w0 F0 => ?_)
        repeat' (first
          | (show awpL _ _ _ _ _; first | refine goL ?_ | refine cl 103 tt rfl rfl rfl (hr := v1) (k := ?_) | refine cl 29 tt rfl rfl rfl (hr := s1) (k := ?_) | refine cl 48 tt rfl rfl rfl (hr := e1) (k := ?_) | refine cl 91 tt rfl rfl rfl (hr := g1) (k := ?_) | (refine gdLG ?_ ?_ <;> intro _ <;> try (exfalso; omega)))
          | (show awp _ _ _ _; first | refine goA ?_ | (refine cdG ?_ ?_ <;> intro _ <;> try (exfalso; omega)))
          | (show andThen _ _ _ _; refine goN ?_)
          | (show inBlock _ _ _ _; refine goB ?_)
          | (show retPost _ _ _ _ _; refine finG ?_))
        rfl
      · rw [decide_eq_false d] at hh
        have z2 : v.num.sign ≠ 0 := fun e => d (z.1 e)
        generalize v.num.sign = w at *
        subst hh
        clear hp oX oe z hh2
        refine ret_of_awp tab Tryz.func55 rfl rfl (Nat.le_of_ble_eq_true rfl) (fun w0 F0 => ?_)
        repeat' (first
          | (show awpL _ _ _ _ _; first | refine goL ?_ | refine cl 103 tt rfl rfl rfl (hr := v1) (k := ?_) | refine cl 29 tt rfl rfl rfl (hr := s1) (k := ?_) | refine cl 48 tt rfl rfl rfl (hr := e1) (k := ?_) | refine cl 91 tt rfl rfl rfl (hr := g1) (k := ?_) | (refine gdLG ?_ ?_ <;> intro _ <;> try (exfalso; omega)))
          | (show awp _ _ _ _; first | refine goA ?_ | (refine cdG ?_ ?_ <;> intro _ <;> try (exfalso; omega)))
          | (show andThen _ _ _ _; refine goN ?_)
          | (show inBlock _ _ _ _; refine goB ?_)
          | (show retPost _ _ _ _ _; refine finG ?_))
        simp [z2]
    · rw [decide_eq_false b] at s1
      rw [if_neg b] at hh
      subst hh
      clear hp oX oe z hh2 g1 e1
      refine ret_of_awp tab Tryz.func55 rfl rfl (Nat.le_of_ble_eq_true rfl) (fun w0 F0 => ?_)
      repeat' (first
        | (show awpL _ _ _ _ _; first | refine goL ?_ | refine cl 103 tt rfl rfl rfl (hr := v1) (k := ?_) | refine cl 29 tt rfl rfl rfl (hr := s1) (k := ?_) | refine cl 23 tt rfl rfl rfl (hr := c1) (k := ?_) | (refine gdLG ?_ ?_ <;> intro _ <;> try (exfalso; omega)))
        | (show awp _ _ _ _; first | refine goA ?_ | (refine cdG ?_ ?_ <;> intro _ <;> try (exfalso; omega)))
        | (show andThen _ _ _ _; refine goN ?_)
        | (show inBlock _ _ _ _; refine goB ?_)
        | (show retPost _ _ _ _ _; refine finG ?_))
      rfl
  · rw [decide_eq_false a] at v1 hh
    rw [Bool.false_and] at hh
    subst hh
    clear hp oX oe z hh2 g1 e1 c1 s1
    refine ret_of_awp tab Tryz.func55 rfl rfl (Nat.le_of_ble_eq_true rfl) (fun w0 F0 => ?_)
    repeat' (first
      | (show awpL _ _ _ _ _; first | refine goL ?_ | refine cl 103 tt rfl rfl rfl (hr := v1) (k := ?_) | (refine gdLG ?_ ?_ <;> intro _ <;> try (exfalso; omega)))
      | (show awp _ _ _ _; first | refine goA ?_ | (refine cdG ?_ ?_ <;> intro _ <;> try (exfalso; omega)))
      | (show andThen _ _ _ _; refine goN ?_)
      | (show inBlock _ _ _ _; refine goB ?_)
      | (show retPost _ _ _ _ _; refine finG ?_))
    rfl
end Go.Proofs.YtlphlodailailaaGreat
