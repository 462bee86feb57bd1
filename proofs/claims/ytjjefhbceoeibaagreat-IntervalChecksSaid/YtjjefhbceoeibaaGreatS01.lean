/-
  A statement of the seat: what its contract is, and the claim. Conditions: as each says.
-/
import Derived.Test.YtjjefhbceoeibaaGreatA11
set_option linter.unusedVariables false
set_option linter.unusedSimpArgs false
set_option maxHeartbeats 8000000
namespace Go.Proofs.YtjjefhbceoeibaaGreat
open Go.Vw
attribute [local irreducible] awp awpL awpR

theorem checks_true (a b c d v : R3) (ha : RawR a) (hb : RawR b) (hc : RawR c) (hd : RawR d) (hv : RawR v) : Ret Tryz.prog 9 [iD a b, iD c d, rD v] (· = .bool true) := by
  have aw := law04_awake
  have l1 := law04_light a b ha hb
  have l2 := law04_light c d hc hd
  have l3 := made_Light v hv
  by_cases hl : (lightR a && lightR b) = true ∧ (lightR c && lightR d) = true ∧ lightR v = true
  · obtain ⟨e1, e2, e3⟩ := hl
    rw [e1] at l1
    rw [e2] at l2
    rw [e3] at l3
    rw [Bool.and_eq_true] at e1 e2
    have oa := ha.light e1.1
    have ob := hb.light e1.2
    have oc := hc.light e2.1
    have od := hd.light e2.2
    have ov := hv.light e3
    clear ha hb hc hd hv e1 e2 e3
    have mk1 := interval_Make a b (oa.up (by decide)) (ob.up (by decide))
    have mk2 := ref04_Make a b (oa.up (by decide)) (ob.up (by decide))
    have v1 := interval_Valid a b (oa.up (by decide)) (ob.up (by decide))
    have v2 := ref04_Valid a b (oa.up (by decide)) (ob.up (by decide))
    have co1 := interval_Contains a b v (oa.up (by decide)) (ob.up (by decide)) (ov.up (by decide))
    have co2 := ref04_Contains a b v (oa.up (by decide)) (ob.up (by decide)) (ov.up (by decide))
    have wi1 := interval_Within a b c d (oa.up (by decide)) (ob.up (by decide)) (oc.up (by decide)) (od.up (by decide))
    have wi2 := ref04_Within a b c d (oa.up (by decide)) (ob.up (by decide)) (oc.up (by decide)) (od.up (by decide))
    have w1 := interval_Width a b (oa.up (by decide)) (ob.up (by decide))
    have w2 := ref04_Width a b (oa.up (by decide)) (ob.up (by decide))
    have m1 := interval_Mid a b (oa.up (by decide)) (ob.up (by decide))
    have m2 := ref04_Mid a b (oa.up (by decide)) (ob.up (by decide))
    have ka : okQ 9 (rv a) := okQ_rv oa (by decide)
    have kb : okQ 9 (rv b) := okQ_rv ob (by decide)
    have ki := takeI_ok ka kb (by decide)
    have k2 : okQ 10 (2 : Rat) := ok_frac (a := 2) (b := 1) (by decide) (by decide) (by decide)
    have sw := ref03_SameQ _ _ ((ki.2.sub ki.1).mono (by decide)) ((ki.2.sub ki.1).mono (by decide))
    have sm := ref03_SameQ _ _ (((ki.1.add ki.2).div k2 (by decide)).mono (by decide)) (((ki.1.add ki.2).div k2 (by decide)).mono (by decide))
    rw [decide_eq_true rfl] at sw sm
    have sI := ref04_SameI (rv a, rv b) (rv a, rv b) ⟨ka.mono (by decide), kb.mono (by decide)⟩ ⟨ka.mono (by decide), kb.mono (by decide)⟩
    have s0 := ref04_Same r0 r0 r0 r0 ⟨by decide, by decide⟩ ⟨by decide, by decide⟩ ⟨by decide, by decide⟩ ⟨by decide, by decide⟩
    rw [decide_eq_true rfl] at sI
    rw [decide_eq_true rfl, Bool.and_self] at s0
    clear oa ob oc od ov ki k2 ka kb
    generalize ((takeI (rv a) (rv b)).1 + (takeI (rv a) (rv b)).2) / 2 = mid at *
    generalize (takeI (rv a) (rv b)).2 - (takeI (rv a) (rv b)).1 = wid at *
    generalize (validR a && validR b && decide (rv a ≤ rv b)) = bv at *
    generalize containsI (takeI (rv a) (rv b)) (rv v) = bc at *
    generalize withinI (takeI (rv a) (rv b)) (takeI (rv c) (rv d)) = bw at *
    by_cases h : rv b < rv a
    · rw [if_pos h] at mk1 mk2
      clear sI
      refine ret_of_awp tab Tryz.func9 rfl rfl (Nat.le_of_ble_eq_true rfl) (fun w0 F0 => ?_)
      repeat' (first
        | (show awpL _ _ _ _ _; first | refine goL ?_ | refine cl 10 tt rfl rfl rfl (hr := l1) (k := ?_) | refine cl 10 tt rfl rfl rfl (hr := l2) (k := ?_) | refine cl 19 tt rfl rfl rfl (hr := l3) (k := ?_) | refine cl 12 tt rfl rfl rfl (hr := aw) (k := ?_) | refine cl 47 tt rfl rfl rfl (hr := mk1) (k := ?_) | refine cl 48 tt rfl rfl rfl (hr := mk2) (k := ?_) | refine cl 49 tt rfl rfl rfl (hr := v1) (k := ?_) | refine cl 11 tt rfl rfl rfl (hr := v2) (k := ?_) | refine cl 35 tt rfl rfl rfl (hr := s0) (k := ?_) | refine cl 43 tt rfl rfl rfl (hr := co1) (k := ?_) | refine cl 18 tt rfl rfl rfl (hr := co2) (k := ?_) | refine cl 29 tt rfl rfl rfl (hr := wi1) (k := ?_) | refine cl 28 tt rfl rfl rfl (hr := wi2) (k := ?_) | refine cl 22 tt rfl rfl rfl (hr := w1) (k := ?_) | refine cl 51 tt rfl rfl rfl (hr := w2) (k := ?_) | refine cl 50 tt rfl rfl rfl (hr := sw) (k := ?_) | refine cl 52 tt rfl rfl rfl (hr := m1) (k := ?_) | refine cl 53 tt rfl rfl rfl (hr := m2) (k := ?_) | refine cl 50 tt rfl rfl rfl (hr := sm) (k := ?_) | (refine gdLD rfl rfl (fun _ => ?_) (fun _ => ?_) <;> try (exfalso; omega)) | (refine gdLN rfl rfl (fun _ => ?_) (fun _ => ?_) <;> try (exfalso; omega)) | refine gdL rfl rfl (fun _ => ?_) (fun _ => ?_))
        | (show awp _ _ _ _; first | refine goA ?_ | refine awp_reg 5 47 mixed (by kernel_rfl) (by kernel_rfl) ?_ | (refine awp_condD rfl (fun _ => ?_) (fun _ => ?_) <;> try (exfalso; omega)) | (refine awp_condN rfl (fun _ => ?_) (fun _ => ?_) <;> try (exfalso; omega)) | refine awp_cond rfl (fun _ => ?_) (fun _ => ?_))
        | (show andThen _ _ _ _; first | refine goN ?_)
        | (show inBlock _ _ _ _; first | refine goB ?_)
        | (show awpR _ _ _ _ _ _; first | refine goR ?_ | refine clR 10 tt rfl rfl rfl (hr := l1) (k := ?_) | refine clR 10 tt rfl rfl rfl (hr := l2) (k := ?_) | refine clR 19 tt rfl rfl rfl (hr := l3) (k := ?_) | refine clR 12 tt rfl rfl rfl (hr := aw) (k := ?_) | refine clR 47 tt rfl rfl rfl (hr := mk1) (k := ?_) | refine clR 48 tt rfl rfl rfl (hr := mk2) (k := ?_) | refine clR 49 tt rfl rfl rfl (hr := v1) (k := ?_) | refine clR 11 tt rfl rfl rfl (hr := v2) (k := ?_) | refine clR 35 tt rfl rfl rfl (hr := s0) (k := ?_) | refine clR 43 tt rfl rfl rfl (hr := co1) (k := ?_) | refine clR 18 tt rfl rfl rfl (hr := co2) (k := ?_) | refine clR 29 tt rfl rfl rfl (hr := wi1) (k := ?_) | refine clR 28 tt rfl rfl rfl (hr := wi2) (k := ?_) | refine clR 22 tt rfl rfl rfl (hr := w1) (k := ?_) | refine clR 51 tt rfl rfl rfl (hr := w2) (k := ?_) | refine clR 50 tt rfl rfl rfl (hr := sw) (k := ?_) | refine clR 52 tt rfl rfl rfl (hr := m1) (k := ?_) | refine clR 53 tt rfl rfl rfl (hr := m2) (k := ?_) | refine clR 50 tt rfl rfl rfl (hr := sm) (k := ?_) | (refine gdRD rfl rfl (fun _ => ?_) (fun _ => ?_) <;> try (exfalso; omega)) | (refine gdRN rfl rfl (fun _ => ?_) (fun _ => ?_) <;> try (exfalso; omega)) | refine gdR rfl rfl (fun _ => ?_) (fun _ => ?_))
        | (show retPost _ _ _ _ _; first | refine finF true rfl rfl sc ?_ | refine finF false rfl rfl sc ?_ | refine finC false rfl rfl sc sc ?_ | refine finN rfl rfl sc ?_ | refine finL true rfl rfl sc rfl (LeR.cons rfl leL LeR.nil) ?_ | refine finE true rfl rfl sc ?_ | refine finE false rfl rfl sc ?_))
      all_goals first | rfl | (rename_i hc; exact absurd rfl hc)
    · rw [if_neg h] at mk1 mk2
      clear s0
      refine ret_of_awp tab Tryz.func9 rfl rfl (Nat.le_of_ble_eq_true rfl) (fun w0 F0 => ?_)
      repeat' (first
        | (show awpL _ _ _ _ _; first | refine goL ?_ | refine cl 10 tt rfl rfl rfl (hr := l1) (k := ?_) | refine cl 10 tt rfl rfl rfl (hr := l2) (k := ?_) | refine cl 19 tt rfl rfl rfl (hr := l3) (k := ?_) | refine cl 12 tt rfl rfl rfl (hr := aw) (k := ?_) | refine cl 47 tt rfl rfl rfl (hr := mk1) (k := ?_) | refine cl 48 tt rfl rfl rfl (hr := mk2) (k := ?_) | refine cl 49 tt rfl rfl rfl (hr := v1) (k := ?_) | refine cl 11 tt rfl rfl rfl (hr := v2) (k := ?_) | refine cl 35 tt rfl rfl rfl (hr := sI) (k := ?_) | refine cl 43 tt rfl rfl rfl (hr := co1) (k := ?_) | refine cl 18 tt rfl rfl rfl (hr := co2) (k := ?_) | refine cl 29 tt rfl rfl rfl (hr := wi1) (k := ?_) | refine cl 28 tt rfl rfl rfl (hr := wi2) (k := ?_) | refine cl 22 tt rfl rfl rfl (hr := w1) (k := ?_) | refine cl 51 tt rfl rfl rfl (hr := w2) (k := ?_) | refine cl 50 tt rfl rfl rfl (hr := sw) (k := ?_) | refine cl 52 tt rfl rfl rfl (hr := m1) (k := ?_) | refine cl 53 tt rfl rfl rfl (hr := m2) (k := ?_) | refine cl 50 tt rfl rfl rfl (hr := sm) (k := ?_) | (refine gdLD rfl rfl (fun _ => ?_) (fun _ => ?_) <;> try (exfalso; omega)) | (refine gdLN rfl rfl (fun _ => ?_) (fun _ => ?_) <;> try (exfalso; omega)) | refine gdL rfl rfl (fun _ => ?_) (fun _ => ?_))
        | (show awp _ _ _ _; first | refine goA ?_ | refine awp_reg 5 47 mixed (by kernel_rfl) (by kernel_rfl) ?_ | (refine awp_condD rfl (fun _ => ?_) (fun _ => ?_) <;> try (exfalso; omega)) | (refine awp_condN rfl (fun _ => ?_) (fun _ => ?_) <;> try (exfalso; omega)) | refine awp_cond rfl (fun _ => ?_) (fun _ => ?_))
        | (show andThen _ _ _ _; first | refine goN ?_)
        | (show inBlock _ _ _ _; first | refine goB ?_)
        | (show awpR _ _ _ _ _ _; first | refine goR ?_ | refine clR 10 tt rfl rfl rfl (hr := l1) (k := ?_) | refine clR 10 tt rfl rfl rfl (hr := l2) (k := ?_) | refine clR 19 tt rfl rfl rfl (hr := l3) (k := ?_) | refine clR 12 tt rfl rfl rfl (hr := aw) (k := ?_) | refine clR 47 tt rfl rfl rfl (hr := mk1) (k := ?_) | refine clR 48 tt rfl rfl rfl (hr := mk2) (k := ?_) | refine clR 49 tt rfl rfl rfl (hr := v1) (k := ?_) | refine clR 11 tt rfl rfl rfl (hr := v2) (k := ?_) | refine clR 35 tt rfl rfl rfl (hr := sI) (k := ?_) | refine clR 43 tt rfl rfl rfl (hr := co1) (k := ?_) | refine clR 18 tt rfl rfl rfl (hr := co2) (k := ?_) | refine clR 29 tt rfl rfl rfl (hr := wi1) (k := ?_) | refine clR 28 tt rfl rfl rfl (hr := wi2) (k := ?_) | refine clR 22 tt rfl rfl rfl (hr := w1) (k := ?_) | refine clR 51 tt rfl rfl rfl (hr := w2) (k := ?_) | refine clR 50 tt rfl rfl rfl (hr := sw) (k := ?_) | refine clR 52 tt rfl rfl rfl (hr := m1) (k := ?_) | refine clR 53 tt rfl rfl rfl (hr := m2) (k := ?_) | refine clR 50 tt rfl rfl rfl (hr := sm) (k := ?_) | (refine gdRD rfl rfl (fun _ => ?_) (fun _ => ?_) <;> try (exfalso; omega)) | (refine gdRN rfl rfl (fun _ => ?_) (fun _ => ?_) <;> try (exfalso; omega)) | refine gdR rfl rfl (fun _ => ?_) (fun _ => ?_))
        | (show retPost _ _ _ _ _; first | refine finF true rfl rfl sc ?_ | refine finF false rfl rfl sc ?_ | refine finC false rfl rfl sc sc ?_ | refine finN rfl rfl sc ?_ | refine finL true rfl rfl sc rfl (LeR.cons rfl leL LeR.nil) ?_ | refine finE true rfl rfl sc ?_ | refine finE false rfl rfl sc ?_))
      all_goals first | rfl | (rename_i hc; exact absurd rfl hc)
  · generalize (lightR a && lightR b) = x at *
    generalize (lightR c && lightR d) = y at *
    generalize lightR v = z at *
    cases x <;> cases y <;> cases z
    rotate_left 7
    · exact absurd ⟨rfl, rfl, rfl⟩ hl
    all_goals
      refine ret_of_awp tab Tryz.func9 rfl rfl (Nat.le_of_ble_eq_true rfl) (fun w0 F0 => ?_)
      repeat' (first
        | (show awpL _ _ _ _ _; first | refine goL ?_ | refine cl 10 tt rfl rfl rfl (hr := l1) (k := ?_) | refine cl 10 tt rfl rfl rfl (hr := l2) (k := ?_) | refine cl 19 tt rfl rfl rfl (hr := l3) (k := ?_) | refine cl 12 tt rfl rfl rfl (hr := aw) (k := ?_) | (refine gdLD rfl rfl (fun _ => ?_) (fun _ => ?_) <;> try (exfalso; omega)) | (refine gdLN rfl rfl (fun _ => ?_) (fun _ => ?_) <;> try (exfalso; omega)) | refine gdL rfl rfl (fun _ => ?_) (fun _ => ?_))
        | (show awp _ _ _ _; first | refine goA ?_ | refine awp_reg 5 47 mixed (by kernel_rfl) (by kernel_rfl) ?_ | (refine awp_condD rfl (fun _ => ?_) (fun _ => ?_) <;> try (exfalso; omega)) | (refine awp_condN rfl (fun _ => ?_) (fun _ => ?_) <;> try (exfalso; omega)) | refine awp_cond rfl (fun _ => ?_) (fun _ => ?_))
        | (show andThen _ _ _ _; first | refine goN ?_)
        | (show inBlock _ _ _ _; first | refine goB ?_)
        | (show awpR _ _ _ _ _ _; first | refine goR ?_ | refine clR 10 tt rfl rfl rfl (hr := l1) (k := ?_) | refine clR 10 tt rfl rfl rfl (hr := l2) (k := ?_) | refine clR 19 tt rfl rfl rfl (hr := l3) (k := ?_) | refine clR 12 tt rfl rfl rfl (hr := aw) (k := ?_) | (refine gdRD rfl rfl (fun _ => ?_) (fun _ => ?_) <;> try (exfalso; omega)) | (refine gdRN rfl rfl (fun _ => ?_) (fun _ => ?_) <;> try (exfalso; omega)) | refine gdR rfl rfl (fun _ => ?_) (fun _ => ?_))
        | (show retPost _ _ _ _ _; first | refine finF true rfl rfl sc ?_ | refine finF false rfl rfl sc ?_ | refine finC false rfl rfl sc sc ?_ | refine finN rfl rfl sc ?_ | refine finL true rfl rfl sc rfl (LeR.cons rfl leL LeR.nil) ?_ | refine finE true rfl rfl sc ?_ | refine finE false rfl rfl sc ?_))
      rfl
end Go.Proofs.YtjjefhbceoeibaaGreat
