/-
  A statement of the seat: what its contract is, and the claim. Conditions: as each says.
-/
import Derived.Test.YtjjefhbceoeibaaGreatN19
import Derived.Test.YtjjefhbceoeibaaGreatA11
set_option linter.unusedVariables false
set_option linter.unusedSimpArgs false
set_option maxHeartbeats 16000000
namespace Go.Proofs.YtjjefhbceoeibaaGreat
open Go.Vw
attribute [local irreducible] awp awpL awpR

theorem least_true (a b c d : R3) (ha : RawR a) (hb : RawR b) (hc : RawR c) (hd : RawR d) : Ret Tryz.prog 3 [iD a b, iD c d] (· = .bool true) := by
  have aw := law04_awake
  have l1 := law04_light a b ha hb
  have l2 := law04_light c d hc hd
  by_cases hl : (lightR a && lightR b) = true ∧ (lightR c && lightR d) = true
  · obtain ⟨t1, t2⟩ := hl
    rw [t1] at l1
    rw [t2] at l2
    rw [Bool.and_eq_true] at t1
    have oa := ha.light t1.1
    have ob := hb.light t1.2
    rw [Bool.and_eq_true] at t2
    have oc := hc.light t2.1
    have od := hd.light t2.2
    have va := ref04_Valid a b (oa.up (by decide)) (ob.up (by decide))
    have vc := ref04_Valid c d (oc.up (by decide)) (od.up (by decide))
    by_cases hw : (validR a && validR b && decide (rv a ≤ rv b)) = true ∧ (validR c && validR d && decide (rv c ≤ rv d)) = true
    · obtain ⟨w1, w2⟩ := hw
      rw [w1] at va
      rw [w2] at vc
      rw [Bool.and_eq_true, decide_eq_true_eq] at w1 w2
      have e1 := w1.2
      have e2 := w2.2
      have pM := interval_Mul a b c d (oa.up (by decide)) (ob.up (by decide)) (oc.up (by decide)) (od.up (by decide))
      have pQ := interval_Square a b (oa.up (by decide)) (ob.up (by decide))
      have rC := ref04_Contains a b r0 (oa.up (by decide)) (ob.up (by decide)) (ok_r0 (by decide))
      rw [takeI_of e1, takeI_of e2] at pM
      rw [takeI_of e1] at pQ rC
      rw [rv_r0] at rC
      have m1 := ref03_Mul a c (oa.up (by decide)) (oc.up (by decide))
      have m2 := ref03_Mul b c (ob.up (by decide)) (oc.up (by decide))
      have m3 := ref03_Mul a d (oa.up (by decide)) (od.up (by decide))
      have m4 := ref03_Mul b d (ob.up (by decide)) (od.up (by decide))
      have m5 := ref03_Mul a a (oa.up (by decide)) (oa.up (by decide))
      have m6 := ref03_Mul b b (ob.up (by decide)) (ob.up (by decide))
      have ka : okQ 9 (rv a) := okQ_rv oa (by decide)
      have kb : okQ 9 (rv b) := okQ_rv ob (by decide)
      have kc : okQ 9 (rv c) := okQ_rv oc (by decide)
      have kd : okQ 9 (rv d) := okQ_rv od (by decide)
      have kM := mulI_ok (a := (rv a, rv b)) (b := (rv c, rv d)) ⟨ka, kb⟩ ⟨kc, kd⟩
      have kQ := sqI_ok (a := (rv a, rv b)) ⟨ka, kb⟩ (by decide)
      have hz := sqI_zero (a := (rv a, rv b)) e1
      have n1 : (mulI (rv a, rv b) (rv c, rv d)).1 ∈ [rv a * rv c, rv b * rv c, rv a * rv d, rv b * rv d] := by
        have := hullL_lo (rv a * rv c) [rv a * rv d, rv b * rv c, rv b * rv d]
        unfold mulI
        simp only [List.mem_cons, List.not_mem_nil, or_false] at this ⊢
        rcases this with h | h | h | h
        · exact .inl h
        · exact .inr (.inr (.inl h))
        · exact .inr (.inl h)
        · exact .inr (.inr (.inr h))
      have n2 : (mulI (rv a, rv b) (rv c, rv d)).2 ∈ [rv a * rv c, rv b * rv c, rv a * rv d, rv b * rv d] := by
        have := hullL_hi (rv a * rv c) [rv a * rv d, rv b * rv c, rv b * rv d]
        unfold mulI
        simp only [List.mem_cons, List.not_mem_nil, or_false] at this ⊢
        rcases this with h | h | h | h
        · exact .inl h
        · exact .inr (.inr (.inl h))
        · exact .inr (.inl h)
        · exact .inr (.inr (.inr h))
      have n3 : (sqI (rv a, rv b)).2 ∈ [rv a * rv a, rv b * rv b] := by
        unfold sqI
        split
        · exact hullL_hi _ _
        · exact hullL_hi _ _
      have f1 := law04_among _ [rv a * rv c, rv b * rv c, rv a * rv d, rv b * rv d] (by simp) (kM.1.mono (by decide)) (by
        intro x hx
        simp only [List.mem_cons, List.not_mem_nil, or_false] at hx
        rcases hx with h | h | h | h <;> rw [h]
        · exact (ka.mul kc).mono (by decide)
        · exact (kb.mul kc).mono (by decide)
        · exact (ka.mul kd).mono (by decide)
        · exact (kb.mul kd).mono (by decide)) n1
      have f2 := law04_among _ [rv a * rv c, rv b * rv c, rv a * rv d, rv b * rv d] (by simp) (kM.2.mono (by decide)) (by
        intro x hx
        simp only [List.mem_cons, List.not_mem_nil, or_false] at hx
        rcases hx with h | h | h | h <;> rw [h]
        · exact (ka.mul kc).mono (by decide)
        · exact (kb.mul kc).mono (by decide)
        · exact (ka.mul kd).mono (by decide)
        · exact (kb.mul kd).mono (by decide)) n2
      have f3 := law04_among _ [rv a * rv a, rv b * rv b] (by simp) (kQ.2.mono (by decide)) (by
        intro x hx
        simp only [List.mem_cons, List.not_mem_nil, or_false] at hx
        rcases hx with h | h <;> rw [h]
        · exact (ka.mul ka).mono (by decide)
        · exact (kb.mul kb).mono (by decide)) n3
      have sg := ref03_SignQ (sqI (rv a, rv b)).1 (kQ.1.mono (by decide))
      rw [← hz, show decide ((sqI (rv a, rv b)).1 = 0) = decide ((sqI (rv a, rv b)).1.num.sign = 0) from decide_eq_decide.2 sign_zero_iff.symm] at rC
      clear hz n1 n2 n3 kM kQ ka kb kc kd e1 e2 w1 w2 oa ob oc od ha hb hc hd t1 t2
      generalize (sqI (rv a, rv b)).1.num.sign = sq at *
      generalize sqI (rv a, rv b) = q at *
      generalize mulI (rv a, rv b) (rv c, rv d) = m at *
      obtain ⟨q1, q2⟩ := q
      obtain ⟨u1, u2⟩ := m
      simp only at *
      generalize rv a * rv a = y1 at *
      generalize rv b * rv b = y2 at *
      generalize rv a * rv c = x1 at *
      generalize rv b * rv c = x2 at *
      generalize rv a * rv d = x3 at *
      generalize rv b * rv d = x4 at *
      refine ret_of_awp tab Tryz.func3 rfl rfl (Nat.le_of_ble_eq_true rfl) (fun w0 F0 => ?_)
      repeat' (first
        | (show awpL _ _ _ _ _; first | refine goL ?_ | refine cl 10 tt rfl rfl rfl (hr := l1) (k := ?_) | refine cl 10 tt rfl rfl rfl (hr := l2) (k := ?_) | refine cl 11 tt rfl rfl rfl (hr := va) (k := ?_) | refine cl 11 tt rfl rfl rfl (hr := vc) (k := ?_) | refine cl 13 tt rfl rfl rfl (hr := pM) (k := ?_) | refine cl 14 tt rfl rfl rfl (hr := pQ) (k := ?_) | (refine gdLD rfl rfl (fun _ => ?_) (fun _ => ?_) <;> try (exfalso; omega)) | (refine gdLN rfl rfl (fun _ => ?_) (fun _ => ?_) <;> try (exfalso; omega)) | refine gdL rfl rfl (fun _ => ?_) (fun _ => ?_))
        | (show awp _ _ _ _; first | refine goA ?_ | refine awp_regK 3 7 [5, 6] mixed (by kernel_rfl) (by kernel_rfl) (by kernel_rfl) ?_ | refine awp_regK 8 7 [9, 10] mixed (by kernel_rfl) (by kernel_rfl) (by kernel_rfl) ?_ | refine awp_reg 14 37 mixed (by kernel_rfl) (by kernel_rfl) ?_ | (refine awp_condD rfl (fun _ => ?_) (fun _ => ?_) <;> try (exfalso; omega)) | (refine awp_condN rfl (fun _ => ?_) (fun _ => ?_) <;> try (exfalso; omega)) | refine awp_cond rfl (fun _ => ?_) (fun _ => ?_))
        | (show andThen _ _ _ _; first | refine goN ?_)
        | (show inBlock _ _ _ _; first | refine goB ?_)
        | (show awpR _ _ _ _ _ _; first | refine goR ?_ | refine clR 10 tt rfl rfl rfl (hr := l1) (k := ?_) | refine clR 10 tt rfl rfl rfl (hr := l2) (k := ?_) | refine clR 11 tt rfl rfl rfl (hr := va) (k := ?_) | refine clR 11 tt rfl rfl rfl (hr := vc) (k := ?_) | refine clR 13 tt rfl rfl rfl (hr := pM) (k := ?_) | refine clR 14 tt rfl rfl rfl (hr := pQ) (k := ?_) | (refine gdRD rfl rfl (fun _ => ?_) (fun _ => ?_) <;> try (exfalso; omega)) | (refine gdRN rfl rfl (fun _ => ?_) (fun _ => ?_) <;> try (exfalso; omega)) | refine gdR rfl rfl (fun _ => ?_) (fun _ => ?_))
        | (show retPost _ _ _ _ _; first | refine finF true rfl rfl sc ?_ | refine finF false rfl rfl sc ?_ | refine finC false rfl rfl sc sc ?_ | refine finN rfl rfl sc ?_ | refine finL true rfl rfl sc rfl (LeR.cons rfl leL LeR.nil) ?_ | refine finE true rfl rfl sc ?_ | refine finE false rfl rfl sc ?_))
      refine awp_adopt 7 100 26 3 qC 0 rfl ?_
      refine awp_loop1 (fun (i : Nat) => ([(2, .ptr 2 0), (3, .ptr 3 0), (5, .ptr 5 0), (6, .ptr 6 0), (7, .own 100 0 ([x1, x2, x3, x4].take i).length 26 3), (8, .d (.int .i64 i))], [(2, .box 28 ((iC a b).map V.d)), (3, .box 28 ((iC c d).map V.d)), (5, .box 28 ((iC (rq u1) (rq u2)).map V.d)), (6, .box 28 ((iC (rq q1) (rq q2)).map V.d)), (100, .data 26 3 qC 0 ([x1, x2, x3, x4].take i))])) (fun i => i ≤ 4) (fun i => 4 - i) 0 (by omega) ⟨rfl, rfl, rfl, rfl, rfl, rfl, rfl⟩ ⟨rfl, rfl, rfl, rfl, rfl, trivial⟩ (fun i hi => ?_)
      have hc : i = 0 ∨ i = 1 ∨ i = 2 ∨ i = 3 ∨ i = 4 := by omega
      rcases hc with rfl | rfl | rfl | rfl | rfl
      · repeat' (first
          | (show awpL _ _ _ _ _; first | refine goL ?_ | refine cl 15 tt rfl rfl rfl (hr := m1) (k := ?_) | (refine gdLD rfl rfl (fun _ => ?_) (fun _ => ?_) <;> try (exfalso; omega)) | (refine gdLN rfl rfl (fun _ => ?_) (fun _ => ?_) <;> try (exfalso; omega)) | refine gdL rfl rfl (fun _ => ?_) (fun _ => ?_))
          | (show awp _ _ _ _; first | refine goA ?_ | refine awp_regK 3 7 [5, 6] mixed (by kernel_rfl) (by kernel_rfl) (by kernel_rfl) ?_ | refine awp_regK 8 7 [9, 10] mixed (by kernel_rfl) (by kernel_rfl) (by kernel_rfl) ?_ | refine awp_reg 14 37 mixed (by kernel_rfl) (by kernel_rfl) ?_ | (refine awp_condD rfl (fun _ => ?_) (fun _ => ?_) <;> try (exfalso; omega)) | (refine awp_condN rfl (fun _ => ?_) (fun _ => ?_) <;> try (exfalso; omega)) | refine awp_cond rfl (fun _ => ?_) (fun _ => ?_))
          | (show andThen _ _ _ _; first | refine goN ?_)
          | (show inBlock _ _ _ _; first | refine goB ?_)
          | (show awpR _ _ _ _ _ _; first | refine goR ?_ | refine clR 15 tt rfl rfl rfl (hr := m1) (k := ?_) | (refine gdRD rfl rfl (fun _ => ?_) (fun _ => ?_) <;> try (exfalso; omega)) | (refine gdRN rfl rfl (fun _ => ?_) (fun _ => ?_) <;> try (exfalso; omega)) | refine gdR rfl rfl (fun _ => ?_) (fun _ => ?_))
          | (show retPost _ _ _ _ _; first | refine finF true rfl rfl sc ?_ | refine finF false rfl rfl sc ?_ | refine finC false rfl rfl sc sc ?_ | refine finN rfl rfl sc ?_ | refine finL true rfl rfl sc rfl (LeR.cons rfl leL LeR.nil) ?_ | refine finE true rfl rfl sc ?_ | refine finE false rfl rfl sc ?_))
        exact ⟨1, by omega, by omega, ⟨rfl, rfl, rfl, rfl, rfl, iv (by omega), rfl⟩, rfl, rfl, rfl, rfl, rfl, trivial⟩
      · repeat' (first
          | (show awpL _ _ _ _ _; first | refine goL ?_ | refine cl 15 tt rfl rfl rfl (hr := m2) (k := ?_) | (refine gdLD rfl rfl (fun _ => ?_) (fun _ => ?_) <;> try (exfalso; omega)) | (refine gdLN rfl rfl (fun _ => ?_) (fun _ => ?_) <;> try (exfalso; omega)) | refine gdL rfl rfl (fun _ => ?_) (fun _ => ?_))
          | (show awp _ _ _ _; first | refine goA ?_ | refine awp_regK 3 7 [5, 6] mixed (by kernel_rfl) (by kernel_rfl) (by kernel_rfl) ?_ | refine awp_regK 8 7 [9, 10] mixed (by kernel_rfl) (by kernel_rfl) (by kernel_rfl) ?_ | refine awp_reg 14 37 mixed (by kernel_rfl) (by kernel_rfl) ?_ | (refine awp_condD rfl (fun _ => ?_) (fun _ => ?_) <;> try (exfalso; omega)) | (refine awp_condN rfl (fun _ => ?_) (fun _ => ?_) <;> try (exfalso; omega)) | refine awp_cond rfl (fun _ => ?_) (fun _ => ?_))
          | (show andThen _ _ _ _; first | refine goN ?_)
          | (show inBlock _ _ _ _; first | refine goB ?_)
          | (show awpR _ _ _ _ _ _; first | refine goR ?_ | refine clR 15 tt rfl rfl rfl (hr := m2) (k := ?_) | (refine gdRD rfl rfl (fun _ => ?_) (fun _ => ?_) <;> try (exfalso; omega)) | (refine gdRN rfl rfl (fun _ => ?_) (fun _ => ?_) <;> try (exfalso; omega)) | refine gdR rfl rfl (fun _ => ?_) (fun _ => ?_))
          | (show retPost _ _ _ _ _; first | refine finF true rfl rfl sc ?_ | refine finF false rfl rfl sc ?_ | refine finC false rfl rfl sc sc ?_ | refine finN rfl rfl sc ?_ | refine finL true rfl rfl sc rfl (LeR.cons rfl leL LeR.nil) ?_ | refine finE true rfl rfl sc ?_ | refine finE false rfl rfl sc ?_))
        exact ⟨2, by omega, by omega, ⟨rfl, rfl, rfl, rfl, rfl, iv (by omega), rfl⟩, rfl, rfl, rfl, rfl, rfl, trivial⟩
      · repeat' (first
          | (show awpL _ _ _ _ _; first | refine goL ?_ | refine cl 15 tt rfl rfl rfl (hr := m3) (k := ?_) | (refine gdLD rfl rfl (fun _ => ?_) (fun _ => ?_) <;> try (exfalso; omega)) | (refine gdLN rfl rfl (fun _ => ?_) (fun _ => ?_) <;> try (exfalso; omega)) | refine gdL rfl rfl (fun _ => ?_) (fun _ => ?_))
          | (show awp _ _ _ _; first | refine goA ?_ | refine awp_regK 3 7 [5, 6] mixed (by kernel_rfl) (by kernel_rfl) (by kernel_rfl) ?_ | refine awp_regK 8 7 [9, 10] mixed (by kernel_rfl) (by kernel_rfl) (by kernel_rfl) ?_ | refine awp_reg 14 37 mixed (by kernel_rfl) (by kernel_rfl) ?_ | (refine awp_condD rfl (fun _ => ?_) (fun _ => ?_) <;> try (exfalso; omega)) | (refine awp_condN rfl (fun _ => ?_) (fun _ => ?_) <;> try (exfalso; omega)) | refine awp_cond rfl (fun _ => ?_) (fun _ => ?_))
          | (show andThen _ _ _ _; first | refine goN ?_)
          | (show inBlock _ _ _ _; first | refine goB ?_)
          | (show awpR _ _ _ _ _ _; first | refine goR ?_ | refine clR 15 tt rfl rfl rfl (hr := m3) (k := ?_) | (refine gdRD rfl rfl (fun _ => ?_) (fun _ => ?_) <;> try (exfalso; omega)) | (refine gdRN rfl rfl (fun _ => ?_) (fun _ => ?_) <;> try (exfalso; omega)) | refine gdR rfl rfl (fun _ => ?_) (fun _ => ?_))
          | (show retPost _ _ _ _ _; first | refine finF true rfl rfl sc ?_ | refine finF false rfl rfl sc ?_ | refine finC false rfl rfl sc sc ?_ | refine finN rfl rfl sc ?_ | refine finL true rfl rfl sc rfl (LeR.cons rfl leL LeR.nil) ?_ | refine finE true rfl rfl sc ?_ | refine finE false rfl rfl sc ?_))
        exact ⟨3, by omega, by omega, ⟨rfl, rfl, rfl, rfl, rfl, iv (by omega), rfl⟩, rfl, rfl, rfl, rfl, rfl, trivial⟩
      · repeat' (first
          | (show awpL _ _ _ _ _; first | refine goL ?_ | refine cl 15 tt rfl rfl rfl (hr := m4) (k := ?_) | (refine gdLD rfl rfl (fun _ => ?_) (fun _ => ?_) <;> try (exfalso; omega)) | (refine gdLN rfl rfl (fun _ => ?_) (fun _ => ?_) <;> try (exfalso; omega)) | refine gdL rfl rfl (fun _ => ?_) (fun _ => ?_))
          | (show awp _ _ _ _; first | refine goA ?_ | refine awp_regK 3 7 [5, 6] mixed (by kernel_rfl) (by kernel_rfl) (by kernel_rfl) ?_ | refine awp_regK 8 7 [9, 10] mixed (by kernel_rfl) (by kernel_rfl) (by kernel_rfl) ?_ | refine awp_reg 14 37 mixed (by kernel_rfl) (by kernel_rfl) ?_ | (refine awp_condD rfl (fun _ => ?_) (fun _ => ?_) <;> try (exfalso; omega)) | (refine awp_condN rfl (fun _ => ?_) (fun _ => ?_) <;> try (exfalso; omega)) | refine awp_cond rfl (fun _ => ?_) (fun _ => ?_))
          | (show andThen _ _ _ _; first | refine goN ?_)
          | (show inBlock _ _ _ _; first | refine goB ?_)
          | (show awpR _ _ _ _ _ _; first | refine goR ?_ | refine clR 15 tt rfl rfl rfl (hr := m4) (k := ?_) | (refine gdRD rfl rfl (fun _ => ?_) (fun _ => ?_) <;> try (exfalso; omega)) | (refine gdRN rfl rfl (fun _ => ?_) (fun _ => ?_) <;> try (exfalso; omega)) | refine gdR rfl rfl (fun _ => ?_) (fun _ => ?_))
          | (show retPost _ _ _ _ _; first | refine finF true rfl rfl sc ?_ | refine finF false rfl rfl sc ?_ | refine finC false rfl rfl sc sc ?_ | refine finN rfl rfl sc ?_ | refine finL true rfl rfl sc rfl (LeR.cons rfl leL LeR.nil) ?_ | refine finE true rfl rfl sc ?_ | refine finE false rfl rfl sc ?_))
        exact ⟨4, by omega, by omega, ⟨rfl, rfl, rfl, rfl, rfl, iv (by omega), rfl⟩, rfl, rfl, rfl, rfl, rfl, trivial⟩
      · repeat' (first
          | (show awpL _ _ _ _ _; first | refine goL ?_ | refine cl 12 tt rfl rfl rfl (hr := aw) (k := ?_) | refine cl 16 tt rfl rfl rfl (hr := f1) (k := ?_) | refine cl 16 tt rfl rfl rfl (hr := f2) (k := ?_) | refine cl 15 tt rfl rfl rfl (hr := m5) (k := ?_) | refine cl 15 tt rfl rfl rfl (hr := m6) (k := ?_) | refine cl 16 tt rfl rfl rfl (hr := f3) (k := ?_) | refine cl 17 tt rfl rfl rfl (hr := sg) (k := ?_) | refine cl 18 tt rfl rfl rfl (hr := rC) (k := ?_) | (refine gdLD rfl rfl (fun _ => ?_) (fun _ => ?_) <;> try (exfalso; omega)) | (refine gdLN rfl rfl (fun _ => ?_) (fun _ => ?_) <;> try (exfalso; omega)) | refine gdL rfl rfl (fun _ => ?_) (fun _ => ?_))
          | (show awp _ _ _ _; first | refine goA ?_ | refine awp_regK 3 7 [5, 6] mixed (by kernel_rfl) (by kernel_rfl) (by kernel_rfl) ?_ | refine awp_regK 8 7 [9, 10] mixed (by kernel_rfl) (by kernel_rfl) (by kernel_rfl) ?_ | refine awp_reg 14 37 mixed (by kernel_rfl) (by kernel_rfl) ?_ | (refine awp_condD rfl (fun _ => ?_) (fun _ => ?_) <;> try (exfalso; omega)) | (refine awp_condN rfl (fun _ => ?_) (fun _ => ?_) <;> try (exfalso; omega)) | refine awp_cond rfl (fun _ => ?_) (fun _ => ?_))
          | (show andThen _ _ _ _; first | refine goN ?_)
          | (show inBlock _ _ _ _; first | refine goB ?_)
          | (show awpR _ _ _ _ _ _; first | refine goR ?_ | refine clR 12 tt rfl rfl rfl (hr := aw) (k := ?_) | refine clR 16 tt rfl rfl rfl (hr := f1) (k := ?_) | refine clR 16 tt rfl rfl rfl (hr := f2) (k := ?_) | refine clR 15 tt rfl rfl rfl (hr := m5) (k := ?_) | refine clR 15 tt rfl rfl rfl (hr := m6) (k := ?_) | refine clR 16 tt rfl rfl rfl (hr := f3) (k := ?_) | refine clR 17 tt rfl rfl rfl (hr := sg) (k := ?_) | refine clR 18 tt rfl rfl rfl (hr := rC) (k := ?_) | (refine gdRD rfl rfl (fun _ => ?_) (fun _ => ?_) <;> try (exfalso; omega)) | (refine gdRN rfl rfl (fun _ => ?_) (fun _ => ?_) <;> try (exfalso; omega)) | refine gdR rfl rfl (fun _ => ?_) (fun _ => ?_))
          | (show retPost _ _ _ _ _; first | refine finF true rfl rfl sc ?_ | refine finF false rfl rfl sc ?_ | refine finC false rfl rfl sc sc ?_ | refine finN rfl rfl sc ?_ | refine finL true rfl rfl sc rfl (LeR.cons rfl leL LeR.nil) ?_ | refine finE true rfl rfl sc ?_ | refine finE false rfl rfl sc ?_))
        all_goals first | rfl | simp
    · generalize (validR a && validR b && decide (rv a ≤ rv b)) = z0 at *
      generalize (validR c && validR d && decide (rv c ≤ rv d)) = z1 at *
      cases z0 <;> cases z1
      rotate_left 3
      · exact absurd ⟨rfl, rfl⟩ hw
      all_goals
        refine ret_of_awp tab Tryz.func3 rfl rfl (Nat.le_of_ble_eq_true rfl) (fun w0 F0 => ?_)
        repeat' (first
          | (show awpL _ _ _ _ _; first | refine goL ?_ | refine cl 10 tt rfl rfl rfl (hr := l1) (k := ?_) | refine cl 10 tt rfl rfl rfl (hr := l2) (k := ?_) | refine cl 11 tt rfl rfl rfl (hr := va) (k := ?_) | refine cl 11 tt rfl rfl rfl (hr := vc) (k := ?_) | refine cl 12 tt rfl rfl rfl (hr := aw) (k := ?_) | (refine gdLD rfl rfl (fun _ => ?_) (fun _ => ?_) <;> try (exfalso; omega)) | (refine gdLN rfl rfl (fun _ => ?_) (fun _ => ?_) <;> try (exfalso; omega)) | refine gdL rfl rfl (fun _ => ?_) (fun _ => ?_))
          | (show awp _ _ _ _; first | refine goA ?_ | refine awp_regK 3 7 [5, 6] mixed (by kernel_rfl) (by kernel_rfl) (by kernel_rfl) ?_ | refine awp_regK 8 7 [9, 10] mixed (by kernel_rfl) (by kernel_rfl) (by kernel_rfl) ?_ | refine awp_reg 14 37 mixed (by kernel_rfl) (by kernel_rfl) ?_ | (refine awp_condD rfl (fun _ => ?_) (fun _ => ?_) <;> try (exfalso; omega)) | (refine awp_condN rfl (fun _ => ?_) (fun _ => ?_) <;> try (exfalso; omega)) | refine awp_cond rfl (fun _ => ?_) (fun _ => ?_))
          | (show andThen _ _ _ _; first | refine goN ?_)
          | (show inBlock _ _ _ _; first | refine goB ?_)
          | (show awpR _ _ _ _ _ _; first | refine goR ?_ | refine clR 10 tt rfl rfl rfl (hr := l1) (k := ?_) | refine clR 10 tt rfl rfl rfl (hr := l2) (k := ?_) | refine clR 11 tt rfl rfl rfl (hr := va) (k := ?_) | refine clR 11 tt rfl rfl rfl (hr := vc) (k := ?_) | refine clR 12 tt rfl rfl rfl (hr := aw) (k := ?_) | (refine gdRD rfl rfl (fun _ => ?_) (fun _ => ?_) <;> try (exfalso; omega)) | (refine gdRN rfl rfl (fun _ => ?_) (fun _ => ?_) <;> try (exfalso; omega)) | refine gdR rfl rfl (fun _ => ?_) (fun _ => ?_))
          | (show retPost _ _ _ _ _; first | refine finF true rfl rfl sc ?_ | refine finF false rfl rfl sc ?_ | refine finC false rfl rfl sc sc ?_ | refine finN rfl rfl sc ?_ | refine finL true rfl rfl sc rfl (LeR.cons rfl leL LeR.nil) ?_ | refine finE true rfl rfl sc ?_ | refine finE false rfl rfl sc ?_))
        rfl
  · generalize (lightR a && lightR b) = z0 at *
    generalize (lightR c && lightR d) = z1 at *
    cases z0 <;> cases z1
    rotate_left 3
    · exact absurd ⟨rfl, rfl⟩ hl
    all_goals
      refine ret_of_awp tab Tryz.func3 rfl rfl (Nat.le_of_ble_eq_true rfl) (fun w0 F0 => ?_)
      repeat' (first
        | (show awpL _ _ _ _ _; first | refine goL ?_ | refine cl 10 tt rfl rfl rfl (hr := l1) (k := ?_) | refine cl 10 tt rfl rfl rfl (hr := l2) (k := ?_) | refine cl 12 tt rfl rfl rfl (hr := aw) (k := ?_) | (refine gdLD rfl rfl (fun _ => ?_) (fun _ => ?_) <;> try (exfalso; omega)) | (refine gdLN rfl rfl (fun _ => ?_) (fun _ => ?_) <;> try (exfalso; omega)) | refine gdL rfl rfl (fun _ => ?_) (fun _ => ?_))
        | (show awp _ _ _ _; first | refine goA ?_ | refine awp_regK 3 7 [5, 6] mixed (by kernel_rfl) (by kernel_rfl) (by kernel_rfl) ?_ | refine awp_regK 8 7 [9, 10] mixed (by kernel_rfl) (by kernel_rfl) (by kernel_rfl) ?_ | refine awp_reg 14 37 mixed (by kernel_rfl) (by kernel_rfl) ?_ | (refine awp_condD rfl (fun _ => ?_) (fun _ => ?_) <;> try (exfalso; omega)) | (refine awp_condN rfl (fun _ => ?_) (fun _ => ?_) <;> try (exfalso; omega)) | refine awp_cond rfl (fun _ => ?_) (fun _ => ?_))
        | (show andThen _ _ _ _; first | refine goN ?_)
        | (show inBlock _ _ _ _; first | refine goB ?_)
        | (show awpR _ _ _ _ _ _; first | refine goR ?_ | refine clR 10 tt rfl rfl rfl (hr := l1) (k := ?_) | refine clR 10 tt rfl rfl rfl (hr := l2) (k := ?_) | refine clR 12 tt rfl rfl rfl (hr := aw) (k := ?_) | (refine gdRD rfl rfl (fun _ => ?_) (fun _ => ?_) <;> try (exfalso; omega)) | (refine gdRN rfl rfl (fun _ => ?_) (fun _ => ?_) <;> try (exfalso; omega)) | refine gdR rfl rfl (fun _ => ?_) (fun _ => ?_))
        | (show retPost _ _ _ _ _; first | refine finF true rfl rfl sc ?_ | refine finF false rfl rfl sc ?_ | refine finC false rfl rfl sc sc ?_ | refine finN rfl rfl sc ?_ | refine finL true rfl rfl sc rfl (LeR.cons rfl leL LeR.nil) ?_ | refine finE true rfl rfl sc ?_ | refine finE false rfl rfl sc ?_))
      rfl
end Go.Proofs.YtjjefhbceoeibaaGreat
