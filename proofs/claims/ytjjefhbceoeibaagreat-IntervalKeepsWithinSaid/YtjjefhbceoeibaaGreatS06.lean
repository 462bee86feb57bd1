/-
  A statement of the seat: what its contract is, and the claim. Conditions: as each says.
-/
import Derived.Test.YtjjefhbceoeibaaGreatN19
import Derived.Test.YtjjefhbceoeibaaGreatA11
set_option linter.unusedVariables false
set_option linter.unusedSimpArgs false
set_option maxHeartbeats 16000000
namespace Go.Proofs.YtjjefhbceoeibaaGreat
open Go.Vw
attribute [local irreducible] awp awpL awpR

theorem keeps_true (a b c d e f : R3) (ha : RawR a) (hb : RawR b) (hc : RawR c) (hd : RawR d) (he : RawR e) (hf : RawR f) : Ret Tryz.prog 5 [iD a b, iD c d, iD e f] (· = .bool true) := by
  have aw := law04_awake
  have l1 := law04_light a b ha hb
  have l2 := law04_light c d hc hd
  have l3 := law04_light e f he hf
  by_cases hl : ((lightR a && lightR b)) = true ∧ ((lightR c && lightR d)) = true ∧ ((lightR e && lightR f)) = true
  · obtain ⟨t1, t2, t3⟩ := hl
    rw [t1] at l1
    rw [t2] at l2
    rw [t3] at l3
    rw [Bool.and_eq_true] at t1
    have oa := ha.light t1.1
    have ob := hb.light t1.2
    rw [Bool.and_eq_true] at t2
    have oc := hc.light t2.1
    have od := hd.light t2.2
    rw [Bool.and_eq_true] at t3
    have oe := he.light t3.1
    have of := hf.light t3.2
    have wi := ref04_Within a b e f (oa.up (by decide)) (ob.up (by decide)) (oe.up (by decide)) (of.up (by decide))
    have pAdd := interval_Add a b c d (oa.up (by decide)) (ob.up (by decide)) (oc.up (by decide)) (od.up (by decide))
    have qAdd := interval_Add e f c d (oe.up (by decide)) (of.up (by decide)) (oc.up (by decide)) (od.up (by decide))
    have pSub := interval_Sub a b c d (oa.up (by decide)) (ob.up (by decide)) (oc.up (by decide)) (od.up (by decide))
    have qSub := interval_Sub e f c d (oe.up (by decide)) (of.up (by decide)) (oc.up (by decide)) (od.up (by decide))
    have pMul := interval_Mul a b c d (oa.up (by decide)) (ob.up (by decide)) (oc.up (by decide)) (od.up (by decide))
    have qMul := interval_Mul e f c d (oe.up (by decide)) (of.up (by decide)) (oc.up (by decide)) (od.up (by decide))
    have pSq := interval_Square a b (oa.up (by decide)) (ob.up (by decide))
    have qSq := interval_Square e f (oe.up (by decide)) (of.up (by decide))
    have pM2 := interval_Mul a b a b (oa.up (by decide)) (ob.up (by decide)) (oa.up (by decide)) (ob.up (by decide))
    have ka : okQ 9 (rv a) := okQ_rv oa (by decide)
    have kb : okQ 9 (rv b) := okQ_rv ob (by decide)
    have ki := takeI_ok ka kb (by decide)
    have ei := takeI_le (rv a) (rv b)
    have kc : okQ 9 (rv c) := okQ_rv oc (by decide)
    have kd : okQ 9 (rv d) := okQ_rv od (by decide)
    have kj := takeI_ok kc kd (by decide)
    have ej := takeI_le (rv c) (rv d)
    have ke : okQ 9 (rv e) := okQ_rv oe (by decide)
    have kf : okQ 9 (rv f) := okQ_rv of (by decide)
    have km := takeI_ok ke kf (by decide)
    have em := takeI_le (rv e) (rv f)
    clear oa ob oc od oe of ha hb hc hd he hf t1 t2 t3 ka kb kc kd ke kf
    generalize takeI (rv a) (rv b) = i at *
    generalize takeI (rv c) (rv d) = j at *
    generalize takeI (rv e) (rv f) = m at *
    cases hw : withinI i m
    · rw [hw] at wi
      clear pAdd qAdd pSub qSub pMul qMul pSq qSq pM2
      refine ret_of_awp tab Tryz.func5 rfl rfl (Nat.le_of_ble_eq_true rfl) (fun w0 F0 => ?_)
      repeat' (first
        | (show awpL _ _ _ _ _; first | refine goL ?_ | refine cl 10 tt rfl rfl rfl (hr := l1) (k := ?_) | refine cl 10 tt rfl rfl rfl (hr := l2) (k := ?_) | refine cl 10 tt rfl rfl rfl (hr := l3) (k := ?_) | refine cl 12 tt rfl rfl rfl (hr := aw) (k := ?_) | refine cl 28 tt rfl rfl rfl (hr := wi) (k := ?_) | (refine gdLD rfl rfl (fun _ => ?_) (fun _ => ?_) <;> try (exfalso; omega)) | (refine gdLN rfl rfl (fun _ => ?_) (fun _ => ?_) <;> try (exfalso; omega)) | refine gdL rfl rfl (fun _ => ?_) (fun _ => ?_))
        | (show awp _ _ _ _; first | refine goA ?_ | refine awp_reg 3 40 mixed (by kernel_rfl) (by kernel_rfl) ?_ | (refine awp_condD rfl (fun _ => ?_) (fun _ => ?_) <;> try (exfalso; omega)) | (refine awp_condN rfl (fun _ => ?_) (fun _ => ?_) <;> try (exfalso; omega)) | refine awp_cond rfl (fun _ => ?_) (fun _ => ?_))
        | (show andThen _ _ _ _; first | refine goN ?_)
        | (show inBlock _ _ _ _; first | refine goB ?_)
        | (show awpR _ _ _ _ _ _; first | refine goR ?_ | refine clR 10 tt rfl rfl rfl (hr := l1) (k := ?_) | refine clR 10 tt rfl rfl rfl (hr := l2) (k := ?_) | refine clR 10 tt rfl rfl rfl (hr := l3) (k := ?_) | refine clR 12 tt rfl rfl rfl (hr := aw) (k := ?_) | refine clR 28 tt rfl rfl rfl (hr := wi) (k := ?_) | (refine gdRD rfl rfl (fun _ => ?_) (fun _ => ?_) <;> try (exfalso; omega)) | (refine gdRN rfl rfl (fun _ => ?_) (fun _ => ?_) <;> try (exfalso; omega)) | refine gdR rfl rfl (fun _ => ?_) (fun _ => ?_))
        | (show retPost _ _ _ _ _; first | refine finF true rfl rfl sc ?_ | refine finF false rfl rfl sc ?_ | refine finC false rfl rfl sc sc ?_ | refine finN rfl rfl sc ?_ | refine finL true rfl rfl sc rfl (LeR.cons rfl leL LeR.nil) ?_ | refine finE true rfl rfl sc ?_ | refine finE false rfl rfl sc ?_))
      rfl
    · rw [hw] at wi
      have wA := within_Q _ _ (addI_le ei ej) (addI_le em ej) ((addI_ok ki kj).mono (by decide)) ((addI_ok km kj).mono (by decide)) (within_add (b := j) hw)
      have wS := within_Q _ _ (subI_le ei ej) (subI_le em ej) ((subI_ok ki kj).mono (by decide)) ((subI_ok km kj).mono (by decide)) (within_sub (b := j) hw)
      have wM := within_Q _ _ (mulI_le i j) (mulI_le m j) ((mulI_ok ki kj).mono (by decide)) ((mulI_ok km kj).mono (by decide)) (within_mul ei ej hw)
      have wQ := within_Q _ _ (sqI_le ei) (sqI_le em) ((sqI_ok ki (by decide)).mono (by decide)) ((sqI_ok km (by decide)).mono (by decide)) (within_sq ei hw)
      have wR := within_Q _ _ (sqI_le ei) (mulI_le i i) ((sqI_ok ki (by decide)).mono (by decide)) ((mulI_ok ki ki).mono (by decide)) (within_sq_mul ei)
      clear ki kj km ei ej em hw
      generalize addI i j = u1 at *
      generalize subI i j = u2 at *
      generalize mulI i j = u3 at *
      generalize sqI i = u4 at *
      generalize addI m j = v1 at *
      generalize subI m j = v2 at *
      generalize mulI m j = v3 at *
      generalize sqI m = v4 at *
      generalize mulI i i = v5 at *
      refine ret_of_awp tab Tryz.func5 rfl rfl (Nat.le_of_ble_eq_true rfl) (fun w0 F0 => ?_)
      repeat' (first
        | (show awpL _ _ _ _ _; first | refine goL ?_ | refine cl 10 tt rfl rfl rfl (hr := l1) (k := ?_) | refine cl 10 tt rfl rfl rfl (hr := l2) (k := ?_) | refine cl 10 tt rfl rfl rfl (hr := l3) (k := ?_) | refine cl 12 tt rfl rfl rfl (hr := aw) (k := ?_) | refine cl 28 tt rfl rfl rfl (hr := wi) (k := ?_) | refine cl 30 tt rfl rfl rfl (hr := pAdd) (k := ?_) | refine cl 30 tt rfl rfl rfl (hr := qAdd) (k := ?_) | refine cl 29 tt rfl rfl rfl (hr := wA) (k := ?_) | refine cl 31 tt rfl rfl rfl (hr := pSub) (k := ?_) | refine cl 31 tt rfl rfl rfl (hr := qSub) (k := ?_) | refine cl 29 tt rfl rfl rfl (hr := wS) (k := ?_) | refine cl 13 tt rfl rfl rfl (hr := pMul) (k := ?_) | refine cl 13 tt rfl rfl rfl (hr := qMul) (k := ?_) | refine cl 29 tt rfl rfl rfl (hr := wM) (k := ?_) | refine cl 14 tt rfl rfl rfl (hr := pSq) (k := ?_) | refine cl 14 tt rfl rfl rfl (hr := qSq) (k := ?_) | refine cl 29 tt rfl rfl rfl (hr := wQ) (k := ?_) | refine cl 13 tt rfl rfl rfl (hr := pM2) (k := ?_) | refine cl 29 tt rfl rfl rfl (hr := wR) (k := ?_) | (refine gdLD rfl rfl (fun _ => ?_) (fun _ => ?_) <;> try (exfalso; omega)) | (refine gdLN rfl rfl (fun _ => ?_) (fun _ => ?_) <;> try (exfalso; omega)) | refine gdL rfl rfl (fun _ => ?_) (fun _ => ?_))
        | (show awp _ _ _ _; first | refine goA ?_ | refine awp_reg 3 40 mixed (by kernel_rfl) (by kernel_rfl) ?_ | (refine awp_condD rfl (fun _ => ?_) (fun _ => ?_) <;> try (exfalso; omega)) | (refine awp_condN rfl (fun _ => ?_) (fun _ => ?_) <;> try (exfalso; omega)) | refine awp_cond rfl (fun _ => ?_) (fun _ => ?_))
        | (show andThen _ _ _ _; first | refine goN ?_)
        | (show inBlock _ _ _ _; first | refine goB ?_)
        | (show awpR _ _ _ _ _ _; first | refine goR ?_ | refine clR 10 tt rfl rfl rfl (hr := l1) (k := ?_) | refine clR 10 tt rfl rfl rfl (hr := l2) (k := ?_) | refine clR 10 tt rfl rfl rfl (hr := l3) (k := ?_) | refine clR 12 tt rfl rfl rfl (hr := aw) (k := ?_) | refine clR 28 tt rfl rfl rfl (hr := wi) (k := ?_) | refine clR 30 tt rfl rfl rfl (hr := pAdd) (k := ?_) | refine clR 30 tt rfl rfl rfl (hr := qAdd) (k := ?_) | refine clR 29 tt rfl rfl rfl (hr := wA) (k := ?_) | refine clR 31 tt rfl rfl rfl (hr := pSub) (k := ?_) | refine clR 31 tt rfl rfl rfl (hr := qSub) (k := ?_) | refine clR 29 tt rfl rfl rfl (hr := wS) (k := ?_) | refine clR 13 tt rfl rfl rfl (hr := pMul) (k := ?_) | refine clR 13 tt rfl rfl rfl (hr := qMul) (k := ?_) | refine clR 29 tt rfl rfl rfl (hr := wM) (k := ?_) | refine clR 14 tt rfl rfl rfl (hr := pSq) (k := ?_) | refine clR 14 tt rfl rfl rfl (hr := qSq) (k := ?_) | refine clR 29 tt rfl rfl rfl (hr := wQ) (k := ?_) | refine clR 13 tt rfl rfl rfl (hr := pM2) (k := ?_) | refine clR 29 tt rfl rfl rfl (hr := wR) (k := ?_) | (refine gdRD rfl rfl (fun _ => ?_) (fun _ => ?_) <;> try (exfalso; omega)) | (refine gdRN rfl rfl (fun _ => ?_) (fun _ => ?_) <;> try (exfalso; omega)) | refine gdR rfl rfl (fun _ => ?_) (fun _ => ?_))
        | (show retPost _ _ _ _ _; first | refine finF true rfl rfl sc ?_ | refine finF false rfl rfl sc ?_ | refine finC false rfl rfl sc sc ?_ | refine finN rfl rfl sc ?_ | refine finL true rfl rfl sc rfl (LeR.cons rfl leL LeR.nil) ?_ | refine finE true rfl rfl sc ?_ | refine finE false rfl rfl sc ?_))
      all_goals rfl
  · generalize ((lightR a && lightR b)) = z0 at *
    generalize ((lightR c && lightR d)) = z1 at *
    generalize ((lightR e && lightR f)) = z2 at *
    cases z0 <;> cases z1 <;> cases z2
    rotate_left 7
    · exact absurd ⟨rfl, rfl, rfl⟩ hl
    all_goals
      refine ret_of_awp tab Tryz.func5 rfl rfl (Nat.le_of_ble_eq_true rfl) (fun w0 F0 => ?_)
      repeat' (first
        | (show awpL _ _ _ _ _; first | refine goL ?_ | refine cl 10 tt rfl rfl rfl (hr := l1) (k := ?_) | refine cl 10 tt rfl rfl rfl (hr := l2) (k := ?_) | refine cl 10 tt rfl rfl rfl (hr := l3) (k := ?_) | refine cl 12 tt rfl rfl rfl (hr := aw) (k := ?_) | (refine gdLD rfl rfl (fun _ => ?_) (fun _ => ?_) <;> try (exfalso; omega)) | (refine gdLN rfl rfl (fun _ => ?_) (fun _ => ?_) <;> try (exfalso; omega)) | refine gdL rfl rfl (fun _ => ?_) (fun _ => ?_))
        | (show awp _ _ _ _; first | refine goA ?_ | refine awp_reg 3 40 mixed (by kernel_rfl) (by kernel_rfl) ?_ | (refine awp_condD rfl (fun _ => ?_) (fun _ => ?_) <;> try (exfalso; omega)) | (refine awp_condN rfl (fun _ => ?_) (fun _ => ?_) <;> try (exfalso; omega)) | refine awp_cond rfl (fun _ => ?_) (fun _ => ?_))
        | (show andThen _ _ _ _; first | refine goN ?_)
        | (show inBlock _ _ _ _; first | refine goB ?_)
        | (show awpR _ _ _ _ _ _; first | refine goR ?_ | refine clR 10 tt rfl rfl rfl (hr := l1) (k := ?_) | refine clR 10 tt rfl rfl rfl (hr := l2) (k := ?_) | refine clR 10 tt rfl rfl rfl (hr := l3) (k := ?_) | refine clR 12 tt rfl rfl rfl (hr := aw) (k := ?_) | (refine gdRD rfl rfl (fun _ => ?_) (fun _ => ?_) <;> try (exfalso; omega)) | (refine gdRN rfl rfl (fun _ => ?_) (fun _ => ?_) <;> try (exfalso; omega)) | refine gdR rfl rfl (fun _ => ?_) (fun _ => ?_))
        | (show retPost _ _ _ _ _; first | refine finF true rfl rfl sc ?_ | refine finF false rfl rfl sc ?_ | refine finC false rfl rfl sc sc ?_ | refine finN rfl rfl sc ?_ | refine finL true rfl rfl sc rfl (LeR.cons rfl leL LeR.nil) ?_ | refine finE true rfl rfl sc ?_ | refine finE false rfl rfl sc ?_))
      rfl
end Go.Proofs.YtjjefhbceoeibaaGreat
