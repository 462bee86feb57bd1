/-
  A statement of the seat: what its contract is, and the claim. Conditions: as each says.
-/
import Derived.Test.YtlphlodailailaaGreatY17
import Derived.Test.YtlphlodailailaaGreatA10
set_option linter.unusedVariables false
set_option linter.unusedSimpArgs false
set_option maxHeartbeats 8000000
namespace Go.Proofs.YtlphlodailailaaGreat
open Go.Vw
attribute [local irreducible] awp awpL awpR

theorem ref05_Sub (p q : List R3) (hp : p.length ≤ 400) (hq : q.length ≤ 400) (kp : ∀ r ∈ p, RatOk r 5000000) (kq : ∀ r ∈ q, RatOk r 4000000) : Ret Tryz.prog 106 [rsD p, rsD q] (· = qsD (trimP (subC (p.map rv) (q.map rv)))) := by
  have f1 := ref03_FromIntW (-1) (by decide) (by decide)
  have s1 := ref05_scaled q (rq ((-1 : Int) : Rat)) 0 hq (by omega) (fun r hr => (kq r hr).up (by decide)) (ok_rq ((ok_intW (by decide)).mono (by decide)))
  rw [rv_rq, show (shiftP 0 (smul ((-1 : Int) : Rat) (q.map rv))) = negC (q.map rv) from rfl] at s1
  have kn : ∀ x ∈ trimP (negC (q.map rv)), okQ 5000000 x := cf_ok fun i => by
    rw [cf_trim, cf_neg]
    refine okQ.neg ?_
    exact (ok_cf (fun x hx => by
      obtain ⟨r, hr, rfl⟩ := List.mem_map.1 hx
      exact okQ_rv (kq r hr) (by decide)) (by decide) i).mono (show 4000000 ≤ 5000000 by decide)
  have ln : (trimP (negC (q.map rv))).length ≤ 500 := by
    have := trim_len (negC (q.map rv))
    have e : (negC (q.map rv)).length = q.length := by show (smul (-1) _).length = _; rw [len_smul, List.length_map]
    omega
  have a1 := ref05_Add p ((trimP (negC (q.map rv))).map rq) (by omega) (by rw [List.length_map]; exact ln) kp (rqs_ok kn)
  rw [map_rv_rqL, show trimP (addC (p.map rv) (trimP (negC (q.map rv)))) = trimP (subC (p.map rv) (q.map rv)) from trim_ext (add_eqv (Eqv.refl _) (trim_eqv _))] at a1
  have a2 : Ret Tryz.prog 74 [rsD p, qsD (trimP (negC (q.map rv)))] (· = qsD (trimP (subC (p.map rv) (q.map rv)))) := a1.args (LeT.cons (LeD.refl _) (leQRs _ (LeT.refl _)))
  generalize trimP (subC (p.map rv) (q.map rv)) = R at *
  generalize trimP (negC (q.map rv)) = S at *
  generalize ((-1 : Int) : Rat) = m1 at *
  clear kp kq a1 kn
  refine ret_of_awp tab Tryz.func106 rfl rfl (Nat.le_of_ble_eq_true rfl) (fun w0 F0 => ?_)
  repeat' (first
    | (show awpL _ _ _ _ _; first | refine goL ?_ | refine cl 31 tt rfl rfl rfl (hr := f1) (k := ?_) | refine cl 67 tt rfl rfl rfl (hr := s1) (k := ?_) | refine cl 74 tt rfl rfl rfl (hr := a2) (k := ?_) | (refine gdLG ?_ ?_ <;> intro _ <;> try (exfalso; omega)))
    | (show awp _ _ _ _; first | refine goA ?_ | (refine cdG ?_ ?_ <;> intro _ <;> try (exfalso; omega)))
    | (show andThen _ _ _ _; refine goN ?_)
    | (show inBlock _ _ _ _; refine goB ?_)
    | (show retPost _ _ _ _ _; refine finG ?_))
  rfl
theorem ref05_monicQ (p : List Rat) (hT : Tr p) (hp : p.length ≤ 400) (kp : ∀ x ∈ p, okQ 2000000 x) : Ret Tryz.prog 63 [qsD p] (· = qsD (monicP p)) := by
  by_cases h0 : p = []
  · subst h0
    show Ret _ _ _ (· = qsD [])
    refine ret_of_awp tab Tryz.func63 rfl rfl (Nat.le_of_ble_eq_true rfl) (fun w0 F0 => ?_)
    repeat' (first
      | (show awpL _ _ _ _ _; first | refine goL ?_ | (refine gdLG ?_ ?_ <;> intro _ <;> try (exfalso; omega)))
      | (show awp _ _ _ _; first | refine goA ?_ | refine rg 3 9 ?_ | (refine cdG ?_ ?_ <;> intro _ <;> try (exfalso; omega)))
      | (show andThen _ _ _ _; refine goN ?_)
      | (show inBlock _ _ _ _; refine goB ?_)
      | (show awpR _ _ _ _ _ _ _; first | refine goR ?_ | (refine gdRG ?_ ?_ <;> intro _ <;> try (exfalso; omega)))
      | (show retPost _ _ _ _ _; first | refine finF true rfl rfl sc ?_ | refine finF false rfl rfl sc ?_ | refine finC false rfl rfl sc sc ?_ | refine finN rfl rfl sc ?_ | refine finL true rfl rfl sc rfl (LeR.cons rfl leL LeR.nil) ?_ | refine finA true rfl rfl sc ?_ | refine finA false rfl rfl sc ?_ | refine finE true rfl rfl sc ?_ | refine finE false rfl rfl sc ?_))
    all_goals rfl
  · have h1 := ne_len h0
    have e1 : ((p.length : Int) - 1).toNat = p.length - 1 := by omega
    have f1 := ref03_FromIntW 1 (by decide) (by decide)
    have q1 := ref03_QuoQ ((1 : Int) : Rat) (lead p) ((ok_intW (by decide)).mono (show _ ≤ 10000000 by decide)) ((ok_cf kp (by decide) _).mono (by decide)) (lead_ne hT h0)
    have oc : okQ 3000000 (((1 : Int) : Rat) / lead p) := ((ok_intW (v := 1) (by decide)).div (ok_cf kp (by decide) (p.length - 1)) (lead_ne hT h0)).mono (by decide)
    have s1 := ref05_scaled (p.map rq) (rq (((1 : Int) : Rat) / lead p)) 0 (by rw [List.length_map]; exact hp) (by omega) (rqs_ok fun x hx => (kp x hx).mono (by decide)) (ok_rq (oc.mono (by decide)))
    rw [map_rv_rqL, rv_rq, show (shiftP 0 (smul (((1 : Int) : Rat) / lead p) p)) = monicP p from rfl, trim_of (tr_monic hT)] at s1
    have s2 := s1.args (leQRs p (LeT.refl _))
    have q2 : Ret Tryz.prog 105 [qD ((1 : Int) : Rat), qD (p.getD ((p.length : Int) - 1).toNat 0)] (· = qD (((1 : Int) : Rat) / lead p)) := by rw [e1]; exact q1
    generalize ((1 : Int) : Rat) / lead p = c at *
    generalize ((1 : Int) : Rat) = u at *
    generalize monicP p = R at *
    clear kp q1 s1
    refine ret_of_awp tab Tryz.func63 rfl rfl (Nat.le_of_ble_eq_true rfl) (fun w0 F0 => ?_)
    repeat' (first
      | (show awpL _ _ _ _ _; first | refine goL ?_ | refine cl 31 tt rfl rfl rfl (hr := f1) (k := ?_) | refine cl 105 tt rfl rfl rfl (hr := q2) (k := ?_) | refine cl 67 tt rfl rfl rfl (hr := s2) (k := ?_) | (refine gdLG ?_ ?_ <;> intro _ <;> try (exfalso; omega)))
      | (show awp _ _ _ _; first | refine goA ?_ | refine rg 3 9 ?_ | (refine cdG ?_ ?_ <;> intro _ <;> try (exfalso; omega)))
      | (show andThen _ _ _ _; refine goN ?_)
      | (show inBlock _ _ _ _; refine goB ?_)
      | (show awpR _ _ _ _ _ _ _; first | refine goR ?_ | refine clR 31 tt rfl rfl rfl (hr := f1) (k := ?_) | refine clR 105 tt rfl rfl rfl (hr := q2) (k := ?_) | refine clR 67 tt rfl rfl rfl (hr := s2) (k := ?_) | (refine gdRG ?_ ?_ <;> intro _ <;> try (exfalso; omega)))
      | (show retPost _ _ _ _ _; refine finG ?_))
    rfl
theorem ref05_Derivative (p : List R3) (hp : p.length ≤ 400) (kp : ∀ r ∈ p, RatOk r 5000000) : Ret Tryz.prog 66 [rsD p] (· = qsD (derP (p.map rv))) := by
  obtain ⟨m, hm⟩ : ∃ m, p.length = m := ⟨_, rfl⟩
  have hdl := derC_len (p.map rv)
  rw [List.length_map, hm] at hdl
  have hok : ∀ q ∈ derC (p.map rv), okQ 5000003 q := fun q hq => by
    obtain ⟨i, hi, rfl⟩ := List.getElem_of_mem hq
    have e := cf_der (p.map rv) i
    rw [cf_eq hi] at e
    rw [e, ← cf_rvs]
    exact ((okQ_nat (n := i + 1) (by omega)).mul (okQ_rv (ok_getD kp (by decide) (i + 1)) (by decide))).mono (by decide)
  have ht2 := ref05_TrimQ (derC (p.map rv)) (by omega) (fun q hq => (hok q hq).mono (by decide))
  rw [show trimP (derC (p.map rv)) = derP (p.map rv) from rfl] at ht2
  clear hok
  generalize derP (p.map rv) = R at *
  refine ret_of_awp tab Tryz.func66 rfl rfl (Nat.le_of_ble_eq_true rfl) (fun w0 F0 => ?_)
  repeat' (first
    | (show awpL _ _ _ _ _; first | refine goL ?_ | (refine gdLG ?_ ?_ <;> intro _ <;> try (exfalso; omega)))
    | (show awp _ _ _ _; first | refine goA ?_ | refine rg 5 9 ?_ | (refine cdG ?_ ?_ <;> intro _ <;> try (exfalso; omega)))
    | (show andThen _ _ _ _; refine goN ?_)
    | (show inBlock _ _ _ _; refine goB ?_)
    | (show awpR _ _ _ _ _ _ _; first | refine goR ?_ | (refine gdRG ?_ ?_ <;> intro _ <;> try (exfalso; omega)))
    | (show retPost _ _ _ _ _; refine finG ?_))
  refine awp_adopt 3 500 29 3 qC 0 rfl ?_
  refine awp_loop1 (fun (i : Nat) => ([(0, .d (rsD p)), (3, qO i), (4, .d (.int .i64 ((i : Int) + 1)))], [(500, qB ((derC (p.map rv)).take i))])) (fun i => i ≤ m - 1) (fun i => m - i) 0 (by omega) ⟨rfl, rfl, rfl, rfl⟩ ⟨rfl, trivial⟩ (fun i hi => ?_)
  have hlq : ((derC (p.map rv)).take i).length = i := by rw [List.length_take]; omega
  by_cases h3 : i + 1 < m
  · have f1 := ref03_FromIntW ((i : Int) + 1) (by omega) (by omega)
    have ei : ((i : Int) + 1).toNat = i + 1 := by omega
    have m1 := ref03_Mul (p.getD ((i : Int) + 1).toNat r0) (rq (((i : Int) + 1 : Int) : Rat)) ((ok_getD kp (by decide) _).up (by decide)) (ok_rq ((okQ_nat (n := i + 1) (by omega)).mono (by decide)))
    rw [rv_rq] at m1
    have et := der_take (p := p.map rv) (i := i) (by rw [List.length_map]; omega)
    rw [gRv (by omega), Rat.mul_comm, show (((i + 1 : Nat) : Int)) = (i : Int) + 1 by omega] at et
    have e5 : p.getD (i + 1) r0 = p.getD ((i : Int) + 1).toNat r0 := by rw [ei]
    rw [e5] at et
    obtain ⟨B, hB⟩ : ∃ B, (derC (p.map rv)).take (i + 1) = B := ⟨_, rfl⟩
    rw [hB] at et
    generalize (derC (p.map rv)).take i = A at *
    generalize rv (p.getD ((i : Int) + 1).toNat r0) * ((((i : Int) + 1 : Int)) : Rat) = x at *
    generalize ((((i : Int) + 1 : Int)) : Rat) = y at *
    clear kp e5
    repeat' (first
      | (show awpL _ _ _ _ _; first | refine goL ?_ | refine cl 31 tt rfl rfl rfl (hr := f1) (k := ?_) | refine cl 41 tt rfl rfl rfl (hr := m1) (k := ?_) | (refine gdLG ?_ ?_ <;> intro _ <;> try (exfalso; omega)))
      | (show awp _ _ _ _; first | refine goA ?_ | refine rg 5 9 ?_ | (refine cdG ?_ ?_ <;> intro _ <;> try (exfalso; omega)))
      | (show andThen _ _ _ _; refine goN ?_)
      | (show inBlock _ _ _ _; refine goB ?_)
      | (show awpR _ _ _ _ _ _ _; first | refine goR ?_ | refine clR 31 tt rfl rfl rfl (hr := f1) (k := ?_) | refine clR 41 tt rfl rfl rfl (hr := m1) (k := ?_) | (refine gdRG ?_ ?_ <;> intro _ <;> try (exfalso; omega)))
      | (show retPost _ _ _ _ _; refine finG ?_))
    exact ⟨i + 1, by omega, by omega, ⟨rfl, ownEq (by rw [List.length_append, hlq]; rfl), iv (by omega), rfl⟩, blkEq (et.trans hB.symm), trivial⟩
  · rw [List.take_of_length_le (show (derC (p.map rv)).length ≤ i by omega)] at hlq ⊢
    generalize derC (p.map rv) = A at *
    clear kp
    repeat' (first
      | (show awpL _ _ _ _ _; first | refine goL ?_ | refine cl 44 tt rfl rfl rfl (hr := ht2) (k := ?_) | (refine gdLG ?_ ?_ <;> intro _ <;> try (exfalso; omega)))
      | (show awp _ _ _ _; first | refine goA ?_ | refine rg 5 9 ?_ | (refine cdG ?_ ?_ <;> intro _ <;> try (exfalso; omega)))
      | (show andThen _ _ _ _; refine goN ?_)
      | (show inBlock _ _ _ _; refine goB ?_)
      | (show awpR _ _ _ _ _ _ _; first | refine goR ?_ | refine clR 44 tt rfl rfl rfl (hr := ht2) (k := ?_) | (refine gdRG ?_ ?_ <;> intro _ <;> try (exfalso; omega)))
      | (show retPost _ _ _ _ _; refine finG ?_))
    rfl
end Go.Proofs.YtlphlodailailaaGreat
