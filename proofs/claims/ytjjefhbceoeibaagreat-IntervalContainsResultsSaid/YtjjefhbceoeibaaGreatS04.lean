/-
  A statement of the seat: what its contract is, and the claim. Conditions: as each says.
-/
import Derived.Test.YtjjefhbceoeibaaGreatN19
import Derived.Test.YtjjefhbceoeibaaGreatA11
set_option linter.unusedVariables false
set_option linter.unusedSimpArgs false
set_option maxHeartbeats 16000000
namespace Go.Proofs.YtjjefhbceoeibaaGreat
open Go.Vw
attribute [local irreducible] awp awpL awpR

theorem results_true (a b c d x y : R3) (ha : RawR a) (hb : RawR b) (hc : RawR c) (hd : RawR d) (hx : RawR x) (hy : RawR y) : Ret Tryz.prog 8 [iD a b, iD c d, rD x, rD y] (· = .bool true) := by
  have aw := law04_awake
  have l1 := law04_light a b ha hb
  have l2 := law04_light c d hc hd
  have l3 := made_Light x hx
  have l4 := made_Light y hy
  by_cases hl : ((lightR a && lightR b)) = true ∧ ((lightR c && lightR d)) = true ∧ (lightR x) = true ∧ (lightR y) = true
  · obtain ⟨t1, t2, t3, t4⟩ := hl
    rw [t1] at l1
    rw [t2] at l2
    rw [t3] at l3
    rw [t4] at l4
    rw [Bool.and_eq_true] at t1
    have oa := ha.light t1.1
    have ob := hb.light t1.2
    rw [Bool.and_eq_true] at t2
    have oc := hc.light t2.1
    have od := hd.light t2.2
    have ox := hx.light t3
    have oy := hy.light t4
    have cx := ref04_Contains a b x (oa.up (by decide)) (ob.up (by decide)) (ox.up (by decide))
    have cy := ref04_Contains c d y (oc.up (by decide)) (od.up (by decide)) (oy.up (by decide))
    have pAdd := interval_Add a b c d (oa.up (by decide)) (ob.up (by decide)) (oc.up (by decide)) (od.up (by decide))
    have pSub := interval_Sub a b c d (oa.up (by decide)) (ob.up (by decide)) (oc.up (by decide)) (od.up (by decide))
    have pMul := interval_Mul a b c d (oa.up (by decide)) (ob.up (by decide)) (oc.up (by decide)) (od.up (by decide))
    have pDiv := interval_Div a b c d (oa.up (by decide)) (ob.up (by decide)) (oc.up (by decide)) (od.up (by decide))
    have pSq := interval_Square a b (oa.up (by decide)) (ob.up (by decide))
    have rAdd := ref03_Add x y (ox.up (by decide)) (oy.up (by decide))
    have rSub := ref03_Sub x y (ox.up (by decide)) (oy.up (by decide))
    have rMul := ref03_Mul x y (ox.up (by decide)) (oy.up (by decide))
    have rSq := ref03_Mul x x (ox.up (by decide)) (ox.up (by decide))
    have sg := ref03_Sign y (oy.up (by decide))
    have quo := fun h0 => ref03_Quo x y (ox.up (by decide)) (oy.up (by decide)) h0
    have ka : okQ 9 (rv a) := okQ_rv oa (by decide)
    have kb : okQ 9 (rv b) := okQ_rv ob (by decide)
    have ki := takeI_ok ka kb (by decide)
    have ei := takeI_le (rv a) (rv b)
    have kc : okQ 9 (rv c) := okQ_rv oc (by decide)
    have kd : okQ 9 (rv d) := okQ_rv od (by decide)
    have kj := takeI_ok kc kd (by decide)
    have ej := takeI_le (rv c) (rv d)
    have kx : okQ 9 (rv x) := okQ_rv ox (by decide)
    have ky : okQ 9 (rv y) := okQ_rv oy (by decide)
    clear oa ob oc od ox oy ha hb hc hd hx hy t1 t2 t3 t4 ka kb kc kd
    generalize takeI (rv a) (rv b) = i at *
    generalize takeI (rv c) (rv d) = j at *
    by_cases hin : containsI i (rv x) = true ∧ containsI j (rv y) = true
    · obtain ⟨hi, hj⟩ := hin
      rw [hi] at cx
      rw [hj] at cy
      rw [containsI_iff] at hi hj
      have cA := contains_Q _ (addI_le ei ej) ((addI_ok ki kj).mono (by decide)) _ ((kx.add ky).mono (by decide)) (in_add hi hj)
      have cS := contains_Q _ (subI_le ei ej) ((subI_ok ki kj).mono (by decide)) _ ((kx.sub ky).mono (by decide)) (in_sub hi hj)
      have cM := contains_Q _ (mulI_le i j) ((mulI_ok ki kj).mono (by decide)) _ ((kx.mul ky).mono (by decide)) (in_mulI hi hj)
      have cQ := contains_Q _ (sqI_le ei) ((sqI_ok ki (by decide)).mono (by decide)) _ ((kx.mul kx).mono (by decide)) (in_sqI hi)
      cases hz : containsI j 0
      · have hy := (in_inv hz hj).1
        have quo1 : Ret Tryz.prog 44 [rD x, rD y] (· = rD (rq (rv x / rv y))) := quo hy
        have cD := contains_Q _ (divI_le i j) ((divI_ok ki kj ej hz).mono (by decide)) _ ((kx.div ky hy).mono (by decide)) (in_div hz hi hj)
        have hs : (rv y).num.sign ≠ 0 := fun h => hy (sign_zero_iff.1 h)
        rw [hz, if_neg (by decide)] at pDiv
        clear quo ki kj ei ej hz hi hj hy kx ky
        generalize (rv y).num.sign = sy at *
        generalize rv x / rv y = vD at *
        generalize rv x + rv y = vA at *
        generalize rv x - rv y = vS at *
        generalize rv x * rv y = vM at *
        generalize rv x * rv x = vQ at *
        generalize addI i j = uA at *
        generalize subI i j = uS at *
        generalize mulI i j = uM at *
        generalize divI i j = uD at *
        generalize sqI i = uQ at *
        refine ret_of_awp tab Tryz.func8 rfl rfl (Nat.le_of_ble_eq_true rfl) (fun w0 F0 => ?_)
        repeat' (first
          | (show awpL _ _ _ _ _; first | refine goL ?_ | refine cl 10 tt rfl rfl rfl (hr := l1) (k := ?_) | refine cl 10 tt rfl rfl rfl (hr := l2) (k := ?_) | refine cl 19 tt rfl rfl rfl (hr := l3) (k := ?_) | refine cl 19 tt rfl rfl rfl (hr := l4) (k := ?_) | refine cl 12 tt rfl rfl rfl (hr := aw) (k := ?_) | refine cl 18 tt rfl rfl rfl (hr := cx) (k := ?_) | refine cl 18 tt rfl rfl rfl (hr := cy) (k := ?_) | refine cl 38 tt rfl rfl rfl (hr := pDiv) (k := ?_) | refine cl 17 tt rfl rfl rfl (hr := sg) (k := ?_) | refine cl 44 tt rfl rfl rfl (hr := quo1) (k := ?_) | refine cl 43 tt rfl rfl rfl (hr := cD) (k := ?_) | refine cl 30 tt rfl rfl rfl (hr := pAdd) (k := ?_) | refine cl 45 tt rfl rfl rfl (hr := rAdd) (k := ?_) | refine cl 43 tt rfl rfl rfl (hr := cA) (k := ?_) | refine cl 31 tt rfl rfl rfl (hr := pSub) (k := ?_) | refine cl 46 tt rfl rfl rfl (hr := rSub) (k := ?_) | refine cl 43 tt rfl rfl rfl (hr := cS) (k := ?_) | refine cl 13 tt rfl rfl rfl (hr := pMul) (k := ?_) | refine cl 15 tt rfl rfl rfl (hr := rMul) (k := ?_) | refine cl 43 tt rfl rfl rfl (hr := cM) (k := ?_) | refine cl 14 tt rfl rfl rfl (hr := pSq) (k := ?_) | refine cl 15 tt rfl rfl rfl (hr := rSq) (k := ?_) | refine cl 43 tt rfl rfl rfl (hr := cQ) (k := ?_) | (refine gdLD rfl rfl (fun _ => ?_) (fun _ => ?_) <;> try (exfalso; omega)) | (refine gdLN rfl rfl (fun _ => ?_) (fun _ => ?_) <;> try (exfalso; omega)) | refine gdL rfl rfl (fun _ => ?_) (fun _ => ?_))
          | (show awp _ _ _ _; first | refine goA ?_ | refine awp_reg 4 11 mixed (by kernel_rfl) (by kernel_rfl) ?_ | refine awp_reg 6 33 mixed (by kernel_rfl) (by kernel_rfl) ?_ | (refine awp_condD rfl (fun _ => ?_) (fun _ => ?_) <;> try (exfalso; omega)) | (refine awp_condN rfl (fun _ => ?_) (fun _ => ?_) <;> try (exfalso; omega)) | refine awp_cond rfl (fun _ => ?_) (fun _ => ?_))
          | (show andThen _ _ _ _; first | refine goN ?_)
          | (show inBlock _ _ _ _; first | refine goB ?_)
          | (show awpR _ _ _ _ _ _; first | refine goR ?_ | refine clR 10 tt rfl rfl rfl (hr := l1) (k := ?_) | refine clR 10 tt rfl rfl rfl (hr := l2) (k := ?_) | refine clR 19 tt rfl rfl rfl (hr := l3) (k := ?_) | refine clR 19 tt rfl rfl rfl (hr := l4) (k := ?_) | refine clR 12 tt rfl rfl rfl (hr := aw) (k := ?_) | refine clR 18 tt rfl rfl rfl (hr := cx) (k := ?_) | refine clR 18 tt rfl rfl rfl (hr := cy) (k := ?_) | refine clR 38 tt rfl rfl rfl (hr := pDiv) (k := ?_) | refine clR 17 tt rfl rfl rfl (hr := sg) (k := ?_) | refine clR 44 tt rfl rfl rfl (hr := quo1) (k := ?_) | refine clR 43 tt rfl rfl rfl (hr := cD) (k := ?_) | refine clR 30 tt rfl rfl rfl (hr := pAdd) (k := ?_) | refine clR 45 tt rfl rfl rfl (hr := rAdd) (k := ?_) | refine clR 43 tt rfl rfl rfl (hr := cA) (k := ?_) | refine clR 31 tt rfl rfl rfl (hr := pSub) (k := ?_) | refine clR 46 tt rfl rfl rfl (hr := rSub) (k := ?_) | refine clR 43 tt rfl rfl rfl (hr := cS) (k := ?_) | refine clR 13 tt rfl rfl rfl (hr := pMul) (k := ?_) | refine clR 15 tt rfl rfl rfl (hr := rMul) (k := ?_) | refine clR 43 tt rfl rfl rfl (hr := cM) (k := ?_) | refine clR 14 tt rfl rfl rfl (hr := pSq) (k := ?_) | refine clR 15 tt rfl rfl rfl (hr := rSq) (k := ?_) | refine clR 43 tt rfl rfl rfl (hr := cQ) (k := ?_) | (refine gdRD rfl rfl (fun _ => ?_) (fun _ => ?_) <;> try (exfalso; omega)) | (refine gdRN rfl rfl (fun _ => ?_) (fun _ => ?_) <;> try (exfalso; omega)) | refine gdR rfl rfl (fun _ => ?_) (fun _ => ?_))
          | (show retPost _ _ _ _ _; first | refine finF true rfl rfl sc ?_ | refine finF false rfl rfl sc ?_ | refine finC false rfl rfl sc sc ?_ | refine finN rfl rfl sc ?_ | refine finL true rfl rfl sc rfl (LeR.cons rfl leL LeR.nil) ?_ | refine finE true rfl rfl sc ?_ | refine finE false rfl rfl sc ?_))
        all_goals rfl
      · rw [hz, if_pos rfl] at pDiv
        clear quo ki kj ei ej hz hi hj kx ky
        generalize (rv y).num.sign = sy at *
        generalize rv x + rv y = vA at *
        generalize rv x - rv y = vS at *
        generalize rv x * rv y = vM at *
        generalize rv x * rv x = vQ at *
        generalize addI i j = uA at *
        generalize subI i j = uS at *
        generalize mulI i j = uM at *
        generalize sqI i = uQ at *
        refine ret_of_awp tab Tryz.func8 rfl rfl (Nat.le_of_ble_eq_true rfl) (fun w0 F0 => ?_)
        repeat' (first
          | (show awpL _ _ _ _ _; first | refine goL ?_ | refine cl 10 tt rfl rfl rfl (hr := l1) (k := ?_) | refine cl 10 tt rfl rfl rfl (hr := l2) (k := ?_) | refine cl 19 tt rfl rfl rfl (hr := l3) (k := ?_) | refine cl 19 tt rfl rfl rfl (hr := l4) (k := ?_) | refine cl 12 tt rfl rfl rfl (hr := aw) (k := ?_) | refine cl 18 tt rfl rfl rfl (hr := cx) (k := ?_) | refine cl 18 tt rfl rfl rfl (hr := cy) (k := ?_) | refine cl 38 tt rfl rfl rfl (hr := pDiv) (k := ?_) | refine cl 30 tt rfl rfl rfl (hr := pAdd) (k := ?_) | refine cl 45 tt rfl rfl rfl (hr := rAdd) (k := ?_) | refine cl 43 tt rfl rfl rfl (hr := cA) (k := ?_) | refine cl 31 tt rfl rfl rfl (hr := pSub) (k := ?_) | refine cl 46 tt rfl rfl rfl (hr := rSub) (k := ?_) | refine cl 43 tt rfl rfl rfl (hr := cS) (k := ?_) | refine cl 13 tt rfl rfl rfl (hr := pMul) (k := ?_) | refine cl 15 tt rfl rfl rfl (hr := rMul) (k := ?_) | refine cl 43 tt rfl rfl rfl (hr := cM) (k := ?_) | refine cl 14 tt rfl rfl rfl (hr := pSq) (k := ?_) | refine cl 15 tt rfl rfl rfl (hr := rSq) (k := ?_) | refine cl 43 tt rfl rfl rfl (hr := cQ) (k := ?_) | (refine gdLD rfl rfl (fun _ => ?_) (fun _ => ?_) <;> try (exfalso; omega)) | (refine gdLN rfl rfl (fun _ => ?_) (fun _ => ?_) <;> try (exfalso; omega)) | refine gdL rfl rfl (fun _ => ?_) (fun _ => ?_))
          | (show awp _ _ _ _; first | refine goA ?_ | refine awp_reg 4 11 mixed (by kernel_rfl) (by kernel_rfl) ?_ | refine awp_reg 6 33 mixed (by kernel_rfl) (by kernel_rfl) ?_ | (refine awp_condD rfl (fun _ => ?_) (fun _ => ?_) <;> try (exfalso; omega)) | (refine awp_condN rfl (fun _ => ?_) (fun _ => ?_) <;> try (exfalso; omega)) | refine awp_cond rfl (fun _ => ?_) (fun _ => ?_))
          | (show andThen _ _ _ _; first | refine goN ?_)
          | (show inBlock _ _ _ _; first | refine goB ?_)
          | (show awpR _ _ _ _ _ _; first | refine goR ?_ | refine clR 10 tt rfl rfl rfl (hr := l1) (k := ?_) | refine clR 10 tt rfl rfl rfl (hr := l2) (k := ?_) | refine clR 19 tt rfl rfl rfl (hr := l3) (k := ?_) | refine clR 19 tt rfl rfl rfl (hr := l4) (k := ?_) | refine clR 12 tt rfl rfl rfl (hr := aw) (k := ?_) | refine clR 18 tt rfl rfl rfl (hr := cx) (k := ?_) | refine clR 18 tt rfl rfl rfl (hr := cy) (k := ?_) | refine clR 38 tt rfl rfl rfl (hr := pDiv) (k := ?_) | refine clR 30 tt rfl rfl rfl (hr := pAdd) (k := ?_) | refine clR 45 tt rfl rfl rfl (hr := rAdd) (k := ?_) | refine clR 43 tt rfl rfl rfl (hr := cA) (k := ?_) | refine clR 31 tt rfl rfl rfl (hr := pSub) (k := ?_) | refine clR 46 tt rfl rfl rfl (hr := rSub) (k := ?_) | refine clR 43 tt rfl rfl rfl (hr := cS) (k := ?_) | refine clR 13 tt rfl rfl rfl (hr := pMul) (k := ?_) | refine clR 15 tt rfl rfl rfl (hr := rMul) (k := ?_) | refine clR 43 tt rfl rfl rfl (hr := cM) (k := ?_) | refine clR 14 tt rfl rfl rfl (hr := pSq) (k := ?_) | refine clR 15 tt rfl rfl rfl (hr := rSq) (k := ?_) | refine clR 43 tt rfl rfl rfl (hr := cQ) (k := ?_) | (refine gdRD rfl rfl (fun _ => ?_) (fun _ => ?_) <;> try (exfalso; omega)) | (refine gdRN rfl rfl (fun _ => ?_) (fun _ => ?_) <;> try (exfalso; omega)) | refine gdR rfl rfl (fun _ => ?_) (fun _ => ?_))
          | (show retPost _ _ _ _ _; first | refine finF true rfl rfl sc ?_ | refine finF false rfl rfl sc ?_ | refine finC false rfl rfl sc sc ?_ | refine finN rfl rfl sc ?_ | refine finL true rfl rfl sc rfl (LeR.cons rfl leL LeR.nil) ?_ | refine finE true rfl rfl sc ?_ | refine finE false rfl rfl sc ?_))
        all_goals rfl
    · clear quo
      generalize containsI i (rv x) = q1 at *
      generalize containsI j (rv y) = q2 at *
      cases q1 <;> cases q2
      rotate_left 3
      · exact absurd ⟨rfl, rfl⟩ hin
      all_goals
        refine ret_of_awp tab Tryz.func8 rfl rfl (Nat.le_of_ble_eq_true rfl) (fun w0 F0 => ?_)
        repeat' (first
          | (show awpL _ _ _ _ _; first | refine goL ?_ | refine cl 10 tt rfl rfl rfl (hr := l1) (k := ?_) | refine cl 10 tt rfl rfl rfl (hr := l2) (k := ?_) | refine cl 19 tt rfl rfl rfl (hr := l3) (k := ?_) | refine cl 19 tt rfl rfl rfl (hr := l4) (k := ?_) | refine cl 12 tt rfl rfl rfl (hr := aw) (k := ?_) | refine cl 18 tt rfl rfl rfl (hr := cx) (k := ?_) | refine cl 18 tt rfl rfl rfl (hr := cy) (k := ?_) | (refine gdLD rfl rfl (fun _ => ?_) (fun _ => ?_) <;> try (exfalso; omega)) | (refine gdLN rfl rfl (fun _ => ?_) (fun _ => ?_) <;> try (exfalso; omega)) | refine gdL rfl rfl (fun _ => ?_) (fun _ => ?_))
          | (show awp _ _ _ _; first | refine goA ?_ | refine awp_reg 4 11 mixed (by kernel_rfl) (by kernel_rfl) ?_ | refine awp_reg 6 33 mixed (by kernel_rfl) (by kernel_rfl) ?_ | (refine awp_condD rfl (fun _ => ?_) (fun _ => ?_) <;> try (exfalso; omega)) | (refine awp_condN rfl (fun _ => ?_) (fun _ => ?_) <;> try (exfalso; omega)) | refine awp_cond rfl (fun _ => ?_) (fun _ => ?_))
          | (show andThen _ _ _ _; first | refine goN ?_)
          | (show inBlock _ _ _ _; first | refine goB ?_)
          | (show awpR _ _ _ _ _ _; first | refine goR ?_ | refine clR 10 tt rfl rfl rfl (hr := l1) (k := ?_) | refine clR 10 tt rfl rfl rfl (hr := l2) (k := ?_) | refine clR 19 tt rfl rfl rfl (hr := l3) (k := ?_) | refine clR 19 tt rfl rfl rfl (hr := l4) (k := ?_) | refine clR 12 tt rfl rfl rfl (hr := aw) (k := ?_) | refine clR 18 tt rfl rfl rfl (hr := cx) (k := ?_) | refine clR 18 tt rfl rfl rfl (hr := cy) (k := ?_) | (refine gdRD rfl rfl (fun _ => ?_) (fun _ => ?_) <;> try (exfalso; omega)) | (refine gdRN rfl rfl (fun _ => ?_) (fun _ => ?_) <;> try (exfalso; omega)) | refine gdR rfl rfl (fun _ => ?_) (fun _ => ?_))
          | (show retPost _ _ _ _ _; first | refine finF true rfl rfl sc ?_ | refine finF false rfl rfl sc ?_ | refine finC false rfl rfl sc sc ?_ | refine finN rfl rfl sc ?_ | refine finL true rfl rfl sc rfl (LeR.cons rfl leL LeR.nil) ?_ | refine finE true rfl rfl sc ?_ | refine finE false rfl rfl sc ?_))
        rfl
  · generalize ((lightR a && lightR b)) = z0 at *
    generalize ((lightR c && lightR d)) = z1 at *
    generalize (lightR x) = z2 at *
    generalize (lightR y) = z3 at *
    cases z0 <;> cases z1 <;> cases z2 <;> cases z3
    rotate_left 15
    · exact absurd ⟨rfl, rfl, rfl, rfl⟩ hl
    all_goals
      refine ret_of_awp tab Tryz.func8 rfl rfl (Nat.le_of_ble_eq_true rfl) (fun w0 F0 => ?_)
      repeat' (first
        | (show awpL _ _ _ _ _; first | refine goL ?_ | refine cl 10 tt rfl rfl rfl (hr := l1) (k := ?_) | refine cl 10 tt rfl rfl rfl (hr := l2) (k := ?_) | refine cl 19 tt rfl rfl rfl (hr := l3) (k := ?_) | refine cl 19 tt rfl rfl rfl (hr := l4) (k := ?_) | refine cl 12 tt rfl rfl rfl (hr := aw) (k := ?_) | (refine gdLD rfl rfl (fun _ => ?_) (fun _ => ?_) <;> try (exfalso; omega)) | (refine gdLN rfl rfl (fun _ => ?_) (fun _ => ?_) <;> try (exfalso; omega)) | refine gdL rfl rfl (fun _ => ?_) (fun _ => ?_))
        | (show awp _ _ _ _; first | refine goA ?_ | refine awp_reg 4 11 mixed (by kernel_rfl) (by kernel_rfl) ?_ | refine awp_reg 6 33 mixed (by kernel_rfl) (by kernel_rfl) ?_ | (refine awp_condD rfl (fun _ => ?_) (fun _ => ?_) <;> try (exfalso; omega)) | (refine awp_condN rfl (fun _ => ?_) (fun _ => ?_) <;> try (exfalso; omega)) | refine awp_cond rfl (fun _ => ?_) (fun _ => ?_))
        | (show andThen _ _ _ _; first | refine goN ?_)
        | (show inBlock _ _ _ _; first | refine goB ?_)
        | (show awpR _ _ _ _ _ _; first | refine goR ?_ | refine clR 10 tt rfl rfl rfl (hr := l1) (k := ?_) | refine clR 10 tt rfl rfl rfl (hr := l2) (k := ?_) | refine clR 19 tt rfl rfl rfl (hr := l3) (k := ?_) | refine clR 19 tt rfl rfl rfl (hr := l4) (k := ?_) | refine clR 12 tt rfl rfl rfl (hr := aw) (k := ?_) | (refine gdRD rfl rfl (fun _ => ?_) (fun _ => ?_) <;> try (exfalso; omega)) | (refine gdRN rfl rfl (fun _ => ?_) (fun _ => ?_) <;> try (exfalso; omega)) | refine gdR rfl rfl (fun _ => ?_) (fun _ => ?_))
        | (show retPost _ _ _ _ _; first | refine finF true rfl rfl sc ?_ | refine finF false rfl rfl sc ?_ | refine finC false rfl rfl sc sc ?_ | refine finN rfl rfl sc ?_ | refine finL true rfl rfl sc rfl (LeR.cons rfl leL LeR.nil) ?_ | refine finE true rfl rfl sc ?_ | refine finE false rfl rfl sc ?_))
      rfl
end Go.Proofs.YtjjefhbceoeibaaGreat
