/-
  A statement of the seat: what its contract is, and the claim. Conditions: as each says.
-/
import Derived.Test.YtjjefhbceoeibaaGreatN19
import Derived.Test.YtjjefhbceoeibaaGreatA11
set_option linter.unusedVariables false
set_option linter.unusedSimpArgs false
set_option maxHeartbeats 16000000
namespace Go.Proofs.YtjjefhbceoeibaaGreat
open Go.Vw
attribute [local irreducible] awp awpL awpR

theorem calculates_true (a b c d : R3) (ha : RawR a) (hb : RawR b) (hc : RawR c) (hd : RawR d) : Ret Tryz.prog 7 [iD a b, iD c d] (· = .bool true) := by
  have aw := law04_awake
  have l1 := law04_light a b ha hb
  have l2 := law04_light c d hc hd
  by_cases hl : ((lightR a && lightR b)) = true ∧ ((lightR c && lightR d)) = true
  · obtain ⟨t1, t2⟩ := hl
    rw [t1] at l1
    rw [t2] at l2
    rw [Bool.and_eq_true] at t1
    have oa := ha.light t1.1
    have ob := hb.light t1.2
    rw [Bool.and_eq_true] at t2
    have oc := hc.light t2.1
    have od := hd.light t2.2
    have pAdd := interval_Add a b c d (oa.up (by decide)) (ob.up (by decide)) (oc.up (by decide)) (od.up (by decide))
    have rAdd := ref04_Add a b c d (oa.up (by decide)) (ob.up (by decide)) (oc.up (by decide)) (od.up (by decide))
    have pSub := interval_Sub a b c d (oa.up (by decide)) (ob.up (by decide)) (oc.up (by decide)) (od.up (by decide))
    have rSub := ref04_Sub a b c d (oa.up (by decide)) (ob.up (by decide)) (oc.up (by decide)) (od.up (by decide))
    have pMul := interval_Mul a b c d (oa.up (by decide)) (ob.up (by decide)) (oc.up (by decide)) (od.up (by decide))
    have rMul := ref04_Mul a b c d (oa.up (by decide)) (ob.up (by decide)) (oc.up (by decide)) (od.up (by decide))
    have pDiv := interval_Div a b c d (oa.up (by decide)) (ob.up (by decide)) (oc.up (by decide)) (od.up (by decide))
    have rDiv := ref04_Div a b c d (oa.up (by decide)) (ob.up (by decide)) (oc.up (by decide)) (od.up (by decide))
    have pSq := interval_Square a b (oa.up (by decide)) (ob.up (by decide))
    have rSq := ref04_Square a b (oa.up (by decide)) (ob.up (by decide))
    have ka : okQ 9 (rv a) := okQ_rv oa (by decide)
    have kb : okQ 9 (rv b) := okQ_rv ob (by decide)
    have ki := takeI_ok ka kb (by decide)
    have ei := takeI_le (rv a) (rv b)
    have kc : okQ 9 (rv c) := okQ_rv oc (by decide)
    have kd : okQ 9 (rv d) := okQ_rv od (by decide)
    have kj := takeI_ok kc kd (by decide)
    have ej := takeI_le (rv c) (rv d)
    clear oa ob oc od ha hb hc hd t1 t2 ka kb kc kd
    generalize takeI (rv a) (rv b) = i at *
    generalize takeI (rv c) (rv d) = j at *
    have sA := same_I _ ((addI_ok ki kj).mono (by decide))
    have sS := same_I _ ((subI_ok ki kj).mono (by decide))
    have sM := same_I _ ((mulI_ok ki kj).mono (by decide))
    have sQ := same_I _ ((sqI_ok ki (by decide)).mono (by decide))
    cases hz : containsI j 0
    · have sD := same_I _ ((divI_ok ki kj ej hz).mono (by decide))
      rw [hz, if_neg (by decide)] at pDiv rDiv
      clear ki kj ei ej hz
      generalize addI i j = uA at *
      generalize subI i j = uS at *
      generalize mulI i j = uM at *
      generalize divI i j = uD at *
      generalize sqI i = uQ at *
      refine ret_of_awp tab Tryz.func7 rfl rfl (Nat.le_of_ble_eq_true rfl) (fun w0 F0 => ?_)
      repeat' (first
        | (show awpL _ _ _ _ _; first | refine goL ?_ | refine cl 10 tt rfl rfl rfl (hr := l1) (k := ?_) | refine cl 10 tt rfl rfl rfl (hr := l2) (k := ?_) | refine cl 12 tt rfl rfl rfl (hr := aw) (k := ?_) | refine cl 30 tt rfl rfl rfl (hr := pAdd) (k := ?_) | refine cl 40 tt rfl rfl rfl (hr := rAdd) (k := ?_) | refine cl 35 tt rfl rfl rfl (hr := sA) (k := ?_) | refine cl 31 tt rfl rfl rfl (hr := pSub) (k := ?_) | refine cl 41 tt rfl rfl rfl (hr := rSub) (k := ?_) | refine cl 35 tt rfl rfl rfl (hr := sS) (k := ?_) | refine cl 13 tt rfl rfl rfl (hr := pMul) (k := ?_) | refine cl 42 tt rfl rfl rfl (hr := rMul) (k := ?_) | refine cl 35 tt rfl rfl rfl (hr := sM) (k := ?_) | refine cl 38 tt rfl rfl rfl (hr := pDiv) (k := ?_) | refine cl 39 tt rfl rfl rfl (hr := rDiv) (k := ?_) | refine cl 35 tt rfl rfl rfl (hr := sD) (k := ?_) | refine cl 14 tt rfl rfl rfl (hr := pSq) (k := ?_) | refine cl 24 tt rfl rfl rfl (hr := rSq) (k := ?_) | refine cl 35 tt rfl rfl rfl (hr := sQ) (k := ?_) | (refine gdLD rfl rfl (fun _ => ?_) (fun _ => ?_) <;> try (exfalso; omega)) | (refine gdLN rfl rfl (fun _ => ?_) (fun _ => ?_) <;> try (exfalso; omega)) | refine gdL rfl rfl (fun _ => ?_) (fun _ => ?_))
        | (show awp _ _ _ _; first | refine goA ?_ | refine awp_reg 5 42 mixed (by kernel_rfl) (by kernel_rfl) ?_ | (refine awp_condD rfl (fun _ => ?_) (fun _ => ?_) <;> try (exfalso; omega)) | (refine awp_condN rfl (fun _ => ?_) (fun _ => ?_) <;> try (exfalso; omega)) | refine awp_cond rfl (fun _ => ?_) (fun _ => ?_))
        | (show andThen _ _ _ _; first | refine goN ?_)
        | (show inBlock _ _ _ _; first | refine goB ?_)
        | (show awpR _ _ _ _ _ _; first | refine goR ?_ | refine clR 10 tt rfl rfl rfl (hr := l1) (k := ?_) | refine clR 10 tt rfl rfl rfl (hr := l2) (k := ?_) | refine clR 12 tt rfl rfl rfl (hr := aw) (k := ?_) | refine clR 30 tt rfl rfl rfl (hr := pAdd) (k := ?_) | refine clR 40 tt rfl rfl rfl (hr := rAdd) (k := ?_) | refine clR 35 tt rfl rfl rfl (hr := sA) (k := ?_) | refine clR 31 tt rfl rfl rfl (hr := pSub) (k := ?_) | refine clR 41 tt rfl rfl rfl (hr := rSub) (k := ?_) | refine clR 35 tt rfl rfl rfl (hr := sS) (k := ?_) | refine clR 13 tt rfl rfl rfl (hr := pMul) (k := ?_) | refine clR 42 tt rfl rfl rfl (hr := rMul) (k := ?_) | refine clR 35 tt rfl rfl rfl (hr := sM) (k := ?_) | refine clR 38 tt rfl rfl rfl (hr := pDiv) (k := ?_) | refine clR 39 tt rfl rfl rfl (hr := rDiv) (k := ?_) | refine clR 35 tt rfl rfl rfl (hr := sD) (k := ?_) | refine clR 14 tt rfl rfl rfl (hr := pSq) (k := ?_) | refine clR 24 tt rfl rfl rfl (hr := rSq) (k := ?_) | refine clR 35 tt rfl rfl rfl (hr := sQ) (k := ?_) | (refine gdRD rfl rfl (fun _ => ?_) (fun _ => ?_) <;> try (exfalso; omega)) | (refine gdRN rfl rfl (fun _ => ?_) (fun _ => ?_) <;> try (exfalso; omega)) | refine gdR rfl rfl (fun _ => ?_) (fun _ => ?_))
        | (show retPost _ _ _ _ _; first | refine finF true rfl rfl sc ?_ | refine finF false rfl rfl sc ?_ | refine finC false rfl rfl sc sc ?_ | refine finN rfl rfl sc ?_ | refine finL true rfl rfl sc rfl (LeR.cons rfl leL LeR.nil) ?_ | refine finE true rfl rfl sc ?_ | refine finE false rfl rfl sc ?_))
      all_goals rfl
    · have sD := same_0
      rw [hz, if_pos rfl] at pDiv rDiv
      clear ki kj ei ej hz
      generalize addI i j = uA at *
      generalize subI i j = uS at *
      generalize mulI i j = uM at *
      generalize sqI i = uQ at *
      refine ret_of_awp tab Tryz.func7 rfl rfl (Nat.le_of_ble_eq_true rfl) (fun w0 F0 => ?_)
      repeat' (first
        | (show awpL _ _ _ _ _; first | refine goL ?_ | refine cl 10 tt rfl rfl rfl (hr := l1) (k := ?_) | refine cl 10 tt rfl rfl rfl (hr := l2) (k := ?_) | refine cl 12 tt rfl rfl rfl (hr := aw) (k := ?_) | refine cl 30 tt rfl rfl rfl (hr := pAdd) (k := ?_) | refine cl 40 tt rfl rfl rfl (hr := rAdd) (k := ?_) | refine cl 35 tt rfl rfl rfl (hr := sA) (k := ?_) | refine cl 31 tt rfl rfl rfl (hr := pSub) (k := ?_) | refine cl 41 tt rfl rfl rfl (hr := rSub) (k := ?_) | refine cl 35 tt rfl rfl rfl (hr := sS) (k := ?_) | refine cl 13 tt rfl rfl rfl (hr := pMul) (k := ?_) | refine cl 42 tt rfl rfl rfl (hr := rMul) (k := ?_) | refine cl 35 tt rfl rfl rfl (hr := sM) (k := ?_) | refine cl 38 tt rfl rfl rfl (hr := pDiv) (k := ?_) | refine cl 39 tt rfl rfl rfl (hr := rDiv) (k := ?_) | refine cl 35 tt rfl rfl rfl (hr := sD) (k := ?_) | refine cl 14 tt rfl rfl rfl (hr := pSq) (k := ?_) | refine cl 24 tt rfl rfl rfl (hr := rSq) (k := ?_) | refine cl 35 tt rfl rfl rfl (hr := sQ) (k := ?_) | (refine gdLD rfl rfl (fun _ => ?_) (fun _ => ?_) <;> try (exfalso; omega)) | (refine gdLN rfl rfl (fun _ => ?_) (fun _ => ?_) <;> try (exfalso; omega)) | refine gdL rfl rfl (fun _ => ?_) (fun _ => ?_))
        | (show awp _ _ _ _; first | refine goA ?_ | refine awp_reg 5 42 mixed (by kernel_rfl) (by kernel_rfl) ?_ | (refine awp_condD rfl (fun _ => ?_) (fun _ => ?_) <;> try (exfalso; omega)) | (refine awp_condN rfl (fun _ => ?_) (fun _ => ?_) <;> try (exfalso; omega)) | refine awp_cond rfl (fun _ => ?_) (fun _ => ?_))
        | (show andThen _ _ _ _; first | refine goN ?_)
        | (show inBlock _ _ _ _; first | refine goB ?_)
        | (show awpR _ _ _ _ _ _; first | refine goR ?_ | refine clR 10 tt rfl rfl rfl (hr := l1) (k := ?_) | refine clR 10 tt rfl rfl rfl (hr := l2) (k := ?_) | refine clR 12 tt rfl rfl rfl (hr := aw) (k := ?_) | refine clR 30 tt rfl rfl rfl (hr := pAdd) (k := ?_) | refine clR 40 tt rfl rfl rfl (hr := rAdd) (k := ?_) | refine clR 35 tt rfl rfl rfl (hr := sA) (k := ?_) | refine clR 31 tt rfl rfl rfl (hr := pSub) (k := ?_) | refine clR 41 tt rfl rfl rfl (hr := rSub) (k := ?_) | refine clR 35 tt rfl rfl rfl (hr := sS) (k := ?_) | refine clR 13 tt rfl rfl rfl (hr := pMul) (k := ?_) | refine clR 42 tt rfl rfl rfl (hr := rMul) (k := ?_) | refine clR 35 tt rfl rfl rfl (hr := sM) (k := ?_) | refine clR 38 tt rfl rfl rfl (hr := pDiv) (k := ?_) | refine clR 39 tt rfl rfl rfl (hr := rDiv) (k := ?_) | refine clR 35 tt rfl rfl rfl (hr := sD) (k := ?_) | refine clR 14 tt rfl rfl rfl (hr := pSq) (k := ?_) | refine clR 24 tt rfl rfl rfl (hr := rSq) (k := ?_) | refine clR 35 tt rfl rfl rfl (hr := sQ) (k := ?_) | (refine gdRD rfl rfl (fun _ => ?_) (fun _ => ?_) <;> try (exfalso; omega)) | (refine gdRN rfl rfl (fun _ => ?_) (fun _ => ?_) <;> try (exfalso; omega)) | refine gdR rfl rfl (fun _ => ?_) (fun _ => ?_))
        | (show retPost _ _ _ _ _; first | refine finF true rfl rfl sc ?_ | refine finF false rfl rfl sc ?_ | refine finC false rfl rfl sc sc ?_ | refine finN rfl rfl sc ?_ | refine finL true rfl rfl sc rfl (LeR.cons rfl leL LeR.nil) ?_ | refine finE true rfl rfl sc ?_ | refine finE false rfl rfl sc ?_))
      all_goals rfl
  · generalize ((lightR a && lightR b)) = z0 at *
    generalize ((lightR c && lightR d)) = z1 at *
    cases z0 <;> cases z1
    rotate_left 3
    · exact absurd ⟨rfl, rfl⟩ hl
    all_goals
      refine ret_of_awp tab Tryz.func7 rfl rfl (Nat.le_of_ble_eq_true rfl) (fun w0 F0 => ?_)
      repeat' (first
        | (show awpL _ _ _ _ _; first | refine goL ?_ | refine cl 10 tt rfl rfl rfl (hr := l1) (k := ?_) | refine cl 10 tt rfl rfl rfl (hr := l2) (k := ?_) | refine cl 12 tt rfl rfl rfl (hr := aw) (k := ?_) | (refine gdLD rfl rfl (fun _ => ?_) (fun _ => ?_) <;> try (exfalso; omega)) | (refine gdLN rfl rfl (fun _ => ?_) (fun _ => ?_) <;> try (exfalso; omega)) | refine gdL rfl rfl (fun _ => ?_) (fun _ => ?_))
        | (show awp _ _ _ _; first | refine goA ?_ | refine awp_reg 5 42 mixed (by kernel_rfl) (by kernel_rfl) ?_ | (refine awp_condD rfl (fun _ => ?_) (fun _ => ?_) <;> try (exfalso; omega)) | (refine awp_condN rfl (fun _ => ?_) (fun _ => ?_) <;> try (exfalso; omega)) | refine awp_cond rfl (fun _ => ?_) (fun _ => ?_))
        | (show andThen _ _ _ _; first | refine goN ?_)
        | (show inBlock _ _ _ _; first | refine goB ?_)
        | (show awpR _ _ _ _ _ _; first | refine goR ?_ | refine clR 10 tt rfl rfl rfl (hr := l1) (k := ?_) | refine clR 10 tt rfl rfl rfl (hr := l2) (k := ?_) | refine clR 12 tt rfl rfl rfl (hr := aw) (k := ?_) | (refine gdRD rfl rfl (fun _ => ?_) (fun _ => ?_) <;> try (exfalso; omega)) | (refine gdRN rfl rfl (fun _ => ?_) (fun _ => ?_) <;> try (exfalso; omega)) | refine gdR rfl rfl (fun _ => ?_) (fun _ => ?_))
        | (show retPost _ _ _ _ _; first | refine finF true rfl rfl sc ?_ | refine finF false rfl rfl sc ?_ | refine finC false rfl rfl sc sc ?_ | refine finN rfl rfl sc ?_ | refine finL true rfl rfl sc rfl (LeR.cons rfl leL LeR.nil) ?_ | refine finE true rfl rfl sc ?_ | refine finE false rfl rfl sc ?_))
      rfl
end Go.Proofs.YtjjefhbceoeibaaGreat
