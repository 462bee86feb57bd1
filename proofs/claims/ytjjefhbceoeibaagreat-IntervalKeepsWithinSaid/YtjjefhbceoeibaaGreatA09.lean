/-
  Contracts of functions of the program, and the layer that they are walked with: N10 RatsD N11 RatsM Itv N12 Contr R07 ItvB. Conditions: as each says.
-/
import Derived.Test.YtjjefhbceoeibaaGreatA08
set_option linter.unusedVariables false
set_option linter.unusedSimpArgs false
namespace Go.Proofs.YtjjefhbceoeibaaGreat
open Go.Vw
attribute [local irreducible] awp awpL awpR

theorem rational_times (z : Int) (n : Nat) (hz : (limbs z.natAbs).length < 10000000) (hn : (limbs n).length < 10000000) : Ret Tryz.prog 107 [zD z, u32s (limbs n)] (· = zD (z * n)) := by
  have hm := integer_MulZ z n (by omega) (by rw [Int.natAbs_natCast]; omega)
  rw [zD_nat] at hm
  refine ret_of_awp tab Tryz.func107 rfl rfl (Nat.le_of_ble_eq_true rfl) (fun w0 F0 => ?_)
  repeat' (first
    | (show awpL _ _ _ _ _; first | refine goL ?_ | refine cl 94 tt rfl rfl rfl (hr := hm) (k := ?_) | (refine gdLD rfl rfl (fun _ => ?_) (fun _ => ?_) <;> try (exfalso; omega)) | (refine gdLN rfl rfl (fun _ => ?_) (fun _ => ?_) <;> try (exfalso; omega)) | refine gdL rfl rfl (fun _ => ?_) (fun _ => ?_))
    | (show awp _ _ _ _; first | refine goA ?_ | (refine awp_condD rfl (fun _ => ?_) (fun _ => ?_) <;> try (exfalso; omega)) | (refine awp_condN rfl (fun _ => ?_) (fun _ => ?_) <;> try (exfalso; omega)) | refine awp_cond rfl (fun _ => ?_) (fun _ => ?_))
    | (show andThen _ _ _ _; first | refine goN ?_)
    | (show inBlock _ _ _ _; first | refine goB ?_)
    | (show awpR _ _ _ _ _ _; first | refine goR ?_ | refine clR 94 tt rfl rfl rfl (hr := hm) (k := ?_) | (refine gdRD rfl rfl (fun _ => ?_) (fun _ => ?_) <;> try (exfalso; omega)) | (refine gdRN rfl rfl (fun _ => ?_) (fun _ => ?_) <;> try (exfalso; omega)) | refine gdR rfl rfl (fun _ => ?_) (fun _ => ?_))
    | (show retPost _ _ _ _ _; first | refine finF true rfl rfl sc ?_ | refine finF false rfl rfl sc ?_ | refine finC false rfl rfl sc sc ?_ | refine finN rfl rfl sc ?_ | refine finL true rfl rfl sc rfl (LeR.cons rfl leL LeR.nil) ?_ | refine finA true rfl rfl sc ?_ | refine finA false rfl rfl sc ?_ | refine finE true rfl rfl sc ?_ | refine finE false rfl rfl sc ?_))
  exact leL
theorem rational_Compare (r t : R3) (hr : RatOk r 1000000) (ht : RatOk t 1000000) : Ret Tryz.prog 71 [rD r, rD t] (· = .int .i64 (cmpQ (rv r) (rv t))) := by
  have tr := rational_value r (hr.up (by decide))
  have tk := rational_value t (ht.up (by decide))
  have or := okQ_rv hr (by decide)
  have ot := okQ_rv ht (by decide)
  generalize rv r = x at *
  generalize rv t = y at *
  have dx := rational_den x (or.mono (by decide))
  have dy := rational_den y (ot.mono (by decide))
  obtain ⟨x1, x2⟩ := or
  obtain ⟨y1, y2⟩ := ot
  have m1 := rational_times x.num y.den (by omega) (by omega)
  have m2 := rational_times y.num x.den (by omega) (by omega)
  have l1 := ln_mul x.num.natAbs y.den
  have l2 := ln_mul y.num.natAbs x.den
  simp only [ln] at l1 l2
  have e1 : (x.num * (y.den : Int)).natAbs = x.num.natAbs * y.den := by rw [Int.natAbs_mul, Int.natAbs_natCast]
  have e2 : (y.num * (x.den : Int)).natAbs = y.num.natAbs * x.den := by rw [Int.natAbs_mul, Int.natAbs_natCast]
  have hc := integer_CompareZ (x.num * y.den) (y.num * x.den) (by rw [e1]; omega) (by rw [e2]; omega)
  rw [cmpQ_eq]
  refine ret_of_awp tab Tryz.func71 rfl rfl (Nat.le_of_ble_eq_true rfl) (fun w0 F0 => ?_)
  repeat' (first
    | (show awpL _ _ _ _ _; first | refine goL ?_ | refine cl 93 tt rfl rfl rfl (hr := tr) (k := ?_) | refine cl 93 tt rfl rfl rfl (hr := tk) (k := ?_) | refine cl 97 tt rfl rfl rfl (hr := dx) (k := ?_) | refine cl 97 tt rfl rfl rfl (hr := dy) (k := ?_) | refine cl 107 tt rfl rfl rfl (hr := m1) (k := ?_) | refine cl 107 tt rfl rfl rfl (hr := m2) (k := ?_) | refine cl 114 tt rfl rfl rfl (hr := hc) (k := ?_) | (refine gdLD rfl rfl (fun _ => ?_) (fun _ => ?_) <;> try (exfalso; omega)) | (refine gdLN rfl rfl (fun _ => ?_) (fun _ => ?_) <;> try (exfalso; omega)) | refine gdL rfl rfl (fun _ => ?_) (fun _ => ?_))
    | (show awp _ _ _ _; first | refine goA ?_ | refine awp_reg 1 3 mixed (by kernel_rfl) (by kernel_rfl) ?_ | refine awp_reg 2 9 mixed (by kernel_rfl) (by kernel_rfl) ?_ | (refine awp_condD rfl (fun _ => ?_) (fun _ => ?_) <;> try (exfalso; omega)) | (refine awp_condN rfl (fun _ => ?_) (fun _ => ?_) <;> try (exfalso; omega)) | refine awp_cond rfl (fun _ => ?_) (fun _ => ?_))
    | (show andThen _ _ _ _; first | refine goN ?_)
    | (show inBlock _ _ _ _; first | refine goB ?_)
    | (show awpR _ _ _ _ _ _; first | refine goR ?_ | refine clR 93 tt rfl rfl rfl (hr := tr) (k := ?_) | refine clR 93 tt rfl rfl rfl (hr := tk) (k := ?_) | refine clR 97 tt rfl rfl rfl (hr := dx) (k := ?_) | refine clR 97 tt rfl rfl rfl (hr := dy) (k := ?_) | refine clR 107 tt rfl rfl rfl (hr := m1) (k := ?_) | refine clR 107 tt rfl rfl rfl (hr := m2) (k := ?_) | refine clR 114 tt rfl rfl rfl (hr := hc) (k := ?_) | (refine gdRD rfl rfl (fun _ => ?_) (fun _ => ?_) <;> try (exfalso; omega)) | (refine gdRN rfl rfl (fun _ => ?_) (fun _ => ?_) <;> try (exfalso; omega)) | refine gdR rfl rfl (fun _ => ?_) (fun _ => ?_))
    | (show retPost _ _ _ _ _; first | refine finF true rfl rfl sc ?_ | refine finF false rfl rfl sc ?_ | refine finC false rfl rfl sc sc ?_ | refine finN rfl rfl sc ?_ | refine finL true rfl rfl sc rfl (LeR.cons rfl leL LeR.nil) ?_ | refine finE true rfl rfl sc ?_ | refine finE false rfl rfl sc ?_))
  rfl
theorem rational_Sign (r : R3) (hr : RatOk r 1000000) : Ret Tryz.prog 66 [rD r] (· = .int .i64 (rv r).num.sign) := by
  have tr := rational_value r (hr.up (by decide))
  have or := okQ_rv hr (by decide)
  generalize rv r = x at *
  have hs := integer_SignZ x.num (by have := or.1; omega)
  refine ret_of_awp tab Tryz.func66 rfl rfl (Nat.le_of_ble_eq_true rfl) (fun w0 F0 => ?_)
  repeat' (first
    | (show awpL _ _ _ _ _; first | refine goL ?_ | refine cl 93 tt rfl rfl rfl (hr := tr) (k := ?_) | refine cl 104 tt rfl rfl rfl (hr := hs) (k := ?_) | (refine gdLD rfl rfl (fun _ => ?_) (fun _ => ?_) <;> try (exfalso; omega)) | (refine gdLN rfl rfl (fun _ => ?_) (fun _ => ?_) <;> try (exfalso; omega)) | refine gdL rfl rfl (fun _ => ?_) (fun _ => ?_))
    | (show awp _ _ _ _; first | refine goA ?_ | (refine awp_condD rfl (fun _ => ?_) (fun _ => ?_) <;> try (exfalso; omega)) | (refine awp_condN rfl (fun _ => ?_) (fun _ => ?_) <;> try (exfalso; omega)) | refine awp_cond rfl (fun _ => ?_) (fun _ => ?_))
    | (show andThen _ _ _ _; first | refine goN ?_)
    | (show inBlock _ _ _ _; first | refine goB ?_)
    | (show awpR _ _ _ _ _ _; first | refine goR ?_ | refine clR 93 tt rfl rfl rfl (hr := tr) (k := ?_) | refine clR 104 tt rfl rfl rfl (hr := hs) (k := ?_) | (refine gdRD rfl rfl (fun _ => ?_) (fun _ => ?_) <;> try (exfalso; omega)) | (refine gdRN rfl rfl (fun _ => ?_) (fun _ => ?_) <;> try (exfalso; omega)) | refine gdR rfl rfl (fun _ => ?_) (fun _ => ?_))
    | (show retPost _ _ _ _ _; first | refine finF true rfl rfl sc ?_ | refine finF false rfl rfl sc ?_ | refine finC false rfl rfl sc sc ?_ | refine finN rfl rfl sc ?_ | refine finL true rfl rfl sc rfl (LeR.cons rfl leL LeR.nil) ?_ | refine finE true rfl rfl sc ?_ | refine finE false rfl rfl sc ?_))
  rfl
theorem natural_copyD (d : Nat) (h : (dL d).length < 10000000) : Ret Tryz.prog 112 [u32s (dL d), u32s []] (· = u32s (dL d)) := by
  unfold dL at *
  split
  · have := natural_AddN 0 0 (by rw [limbs_zero]; simp) (by rw [limbs_zero]; simp)
    rw [Nat.add_zero, limbs_zero] at this
    exact this
  · rename_i h1
    rw [if_neg h1] at h
    have := natural_AddN d 0 (by omega) (by rw [limbs_zero]; simp)
    rw [Nat.add_zero, limbs_zero] at this
    exact this
theorem rational_Neg (r : R3) (hr : RatOk r 1000000) : Ret Tryz.prog 117 [rD r] (· = rD (rq (-rv r))) := by
  have tr := rational_value r (hr.up (by decide))
  have or := okQ_rv hr (by decide)
  generalize rv r = x at *
  have hs := integer_NegZ x.num (by have := or.1; omega)
  have hd := natural_copyD x.den (by have := or.dl; omega)
  have e : rq (-x) = (decide (-x.num < 0), limbs (-x.num).natAbs, dL x.den) := rfl
  rw [e]
  refine ret_of_awp tab Tryz.func117 rfl rfl (Nat.le_of_ble_eq_true rfl) (fun w0 F0 => ?_)
  repeat' (first
    | (show awpL _ _ _ _ _; first | refine goL ?_ | refine cl 93 tt rfl rfl rfl (hr := tr) (k := ?_) | refine cl 132 tt rfl rfl rfl (hr := hs) (k := ?_) | refine cl 112 tt rfl rfl rfl (hr := hd) (k := ?_) | (refine gdLD rfl rfl (fun _ => ?_) (fun _ => ?_) <;> try (exfalso; omega)) | (refine gdLN rfl rfl (fun _ => ?_) (fun _ => ?_) <;> try (exfalso; omega)) | refine gdL rfl rfl (fun _ => ?_) (fun _ => ?_))
    | (show awp _ _ _ _; first | refine goA ?_ | refine awp_reg 2 5 mixed (by kernel_rfl) (by kernel_rfl) ?_ | (refine awp_condD rfl (fun _ => ?_) (fun _ => ?_) <;> try (exfalso; omega)) | (refine awp_condN rfl (fun _ => ?_) (fun _ => ?_) <;> try (exfalso; omega)) | refine awp_cond rfl (fun _ => ?_) (fun _ => ?_))
    | (show andThen _ _ _ _; first | refine goN ?_)
    | (show inBlock _ _ _ _; first | refine goB ?_)
    | (show awpR _ _ _ _ _ _; first | refine goR ?_ | refine clR 93 tt rfl rfl rfl (hr := tr) (k := ?_) | refine clR 132 tt rfl rfl rfl (hr := hs) (k := ?_) | refine clR 112 tt rfl rfl rfl (hr := hd) (k := ?_) | (refine gdRD rfl rfl (fun _ => ?_) (fun _ => ?_) <;> try (exfalso; omega)) | (refine gdRN rfl rfl (fun _ => ?_) (fun _ => ?_) <;> try (exfalso; omega)) | refine gdR rfl rfl (fun _ => ?_) (fun _ => ?_))
    | (show retPost _ _ _ _ _; first | refine finF true rfl rfl sc ?_ | refine finF false rfl rfl sc ?_ | refine finC false rfl rfl sc sc ?_ | refine finN rfl rfl sc ?_ | refine finL true rfl rfl sc rfl (LeR.cons rfl leL LeR.nil) ?_ | refine finE true rfl rfl sc ?_ | refine finE false rfl rfl sc ?_))
  rfl
theorem dL_one : dL 1 = [] := rfl
theorem rational_Add (r t : R3) (hr : RatOk r 1000000) (ht : RatOk t 1000000) : Ret Tryz.prog 74 [rD r, rD t] (· = rD (rq (rv r + rv t))) := by
  have tr := rational_value r (hr.up (by decide))
  have tk := rational_value t (ht.up (by decide))
  have or := okQ_rv hr (by decide)
  have ot := okQ_rv ht (by decide)
  generalize rv r = x at *
  generalize rv t = y at *
  have dx := rational_den x (or.mono (by decide))
  have dy := rational_den y (ot.mono (by decide))
  have nx := dL_nil x.den_nz
  have ny := dL_nil y.den_nz
  obtain ⟨x1, x2⟩ := or
  obtain ⟨y1, y2⟩ := ot
  by_cases hh : x.den = 1 ∧ y.den = 1
  · have a0 := integer_AddZ x.num y.num (by omega) (by omega)
    have e : rq (x + y) = (decide (x.num + y.num < 0), limbs (x.num + y.num).natAbs, []) := by
      have hx : x = (x.num : Rat) := int_of_den hh.1
      have hy : y = (y.num : Rat) := int_of_den hh.2
      have hs : x + y = ((x.num + y.num : Int) : Rat) := by
        conv => lhs; rw [hx, hy]
        rw [Rat.intCast_add]
      rw [hs]; rfl
    have ex : rq x = (decide (x.num < 0), limbs x.num.natAbs, []) := by rw [rq, hh.1]; rfl
    have ey : rq y = (decide (y.num < 0), limbs y.num.natAbs, []) := by rw [rq, hh.2]; rfl
    rw [ex] at tr
    rw [ey] at tk
    rw [e]
    refine ret_of_awp tab Tryz.func74 rfl rfl (Nat.le_of_ble_eq_true rfl) (fun w0 F0 => ?_)
    repeat' (first
      | (show awpL _ _ _ _ _; first | refine goL ?_ | refine cl 93 tt rfl rfl rfl (hr := tr) (k := ?_) | refine cl 93 tt rfl rfl rfl (hr := tk) (k := ?_) | refine cl 116 tt rfl rfl rfl (hr := a0) (k := ?_) | (refine gdLD rfl rfl (fun _ => ?_) (fun _ => ?_) <;> try (exfalso; omega)) | (refine gdLN rfl rfl (fun _ => ?_) (fun _ => ?_) <;> try (exfalso; omega)) | refine gdL rfl rfl (fun _ => ?_) (fun _ => ?_))
      | (show awp _ _ _ _; first | refine goA ?_ | refine awp_reg 1 3 mixed (by kernel_rfl) (by kernel_rfl) ?_ | refine awp_reg 4 14 mixed (by kernel_rfl) (by kernel_rfl) ?_ | (refine awp_condD rfl (fun _ => ?_) (fun _ => ?_) <;> try (exfalso; omega)) | (refine awp_condN rfl (fun _ => ?_) (fun _ => ?_) <;> try (exfalso; omega)) | refine awp_cond rfl (fun _ => ?_) (fun _ => ?_))
      | (show andThen _ _ _ _; first | refine goN ?_)
      | (show inBlock _ _ _ _; first | refine goB ?_)
      | (show awpR _ _ _ _ _ _; first | refine goR ?_ | refine clR 93 tt rfl rfl rfl (hr := tr) (k := ?_) | refine clR 93 tt rfl rfl rfl (hr := tk) (k := ?_) | refine clR 116 tt rfl rfl rfl (hr := a0) (k := ?_) | (refine gdRD rfl rfl (fun _ => ?_) (fun _ => ?_) <;> try (exfalso; omega)) | (refine gdRN rfl rfl (fun _ => ?_) (fun _ => ?_) <;> try (exfalso; omega)) | refine gdR rfl rfl (fun _ => ?_) (fun _ => ?_))
      | (show retPost _ _ _ _ _; first | refine finF true rfl rfl sc ?_ | refine finF false rfl rfl sc ?_ | refine finC false rfl rfl sc sc ?_ | refine finN rfl rfl sc ?_ | refine finL true rfl rfl sc rfl (LeR.cons rfl leL LeR.nil) ?_ | refine finA true rfl rfl sc ?_ | refine finA false rfl rfl sc ?_ | refine finE true rfl rfl sc ?_ | refine finE false rfl rfl sc ?_))
    exact leL
  · have m1 := rational_times x.num y.den (by omega) (by omega)
    have m2 := rational_times y.num x.den (by omega) (by omega)
    have m3 := natural_MulN x.den y.den (by omega) (by omega)
    have l1 := ln_mul x.num.natAbs y.den
    have l2 := ln_mul y.num.natAbs x.den
    have l3 := ln_mul x.den y.den
    simp only [ln] at l1 l2 l3
    have e1 : (x.num * (y.den : Int)).natAbs = x.num.natAbs * y.den := by rw [Int.natAbs_mul, Int.natAbs_natCast]
    have e2 : (y.num * (x.den : Int)).natAbs = y.num.natAbs * x.den := by rw [Int.natAbs_mul, Int.natAbs_natCast]
    have a1 := integer_AddZ (x.num * y.den) (y.num * x.den) (by rw [e1]; omega) (by rw [e2]; omega)
    have l4 := ln_mono (Int.natAbs_add_le (x.num * y.den) (y.num * x.den))
    have l5 := ln_add (x.num * (y.den : Int)).natAbs (y.num * (x.den : Int)).natAbs
    simp only [ln] at l4 l5
    rw [e1, e2] at l4 l5
    have o := rational_lowest (x.num * y.den + y.num * x.den) (x.den * y.den) (Nat.mul_ne_zero x.den_nz y.den_nz) (by omega) (by omega)
    rw [show Rat.divInt (x.num * y.den + y.num * x.den) ((x.den * y.den : Nat) : Int) = x + y by rw [Rat.add_def', ← Rat.divInt_ofNat]] at o
    have hl : (rq x).2.2.length ≠ 0 ∨ (rq y).2.2.length ≠ 0 := by show (dL x.den).length ≠ 0 ∨ (dL y.den).length ≠ 0; rw [ne_eq, nx, ne_eq, ny]; omega
    clear l1 l2 l3 l4 l5 e1 e2
    refine ret_of_awp tab Tryz.func74 rfl rfl (Nat.le_of_ble_eq_true rfl) (fun w0 F0 => ?_)
    repeat' (first
      | (show awpL _ _ _ _ _; first | refine goL ?_ | refine cl 93 tt rfl rfl rfl (hr := tr) (k := ?_) | refine cl 93 tt rfl rfl rfl (hr := tk) (k := ?_) | refine cl 97 tt rfl rfl rfl (hr := dx) (k := ?_) | refine cl 97 tt rfl rfl rfl (hr := dy) (k := ?_) | refine cl 107 tt rfl rfl rfl (hr := m1) (k := ?_) | refine cl 107 tt rfl rfl rfl (hr := m2) (k := ?_) | refine cl 96 tt rfl rfl rfl (hr := m3) (k := ?_) | refine cl 116 tt rfl rfl rfl (hr := a1) (k := ?_) | refine cl 95 tt rfl rfl rfl (hr := o) (k := ?_) | (refine gdLD rfl rfl (fun _ => ?_) (fun _ => ?_) <;> try (exfalso; omega)) | (refine gdLN rfl rfl (fun _ => ?_) (fun _ => ?_) <;> try (exfalso; omega)) | refine gdL rfl rfl (fun _ => ?_) (fun _ => ?_))
      | (show awp _ _ _ _; first | refine goA ?_ | refine awp_reg 1 3 mixed (by kernel_rfl) (by kernel_rfl) ?_ | refine awp_reg 4 14 mixed (by kernel_rfl) (by kernel_rfl) ?_ | (refine awp_condD rfl (fun _ => ?_) (fun _ => ?_) <;> try (exfalso; omega)) | (refine awp_condN rfl (fun _ => ?_) (fun _ => ?_) <;> try (exfalso; omega)) | refine awp_cond rfl (fun _ => ?_) (fun _ => ?_))
      | (show andThen _ _ _ _; first | refine goN ?_)
      | (show inBlock _ _ _ _; first | refine goB ?_)
      | (show awpR _ _ _ _ _ _; first | refine goR ?_ | refine clR 93 tt rfl rfl rfl (hr := tr) (k := ?_) | refine clR 93 tt rfl rfl rfl (hr := tk) (k := ?_) | refine clR 97 tt rfl rfl rfl (hr := dx) (k := ?_) | refine clR 97 tt rfl rfl rfl (hr := dy) (k := ?_) | refine clR 107 tt rfl rfl rfl (hr := m1) (k := ?_) | refine clR 107 tt rfl rfl rfl (hr := m2) (k := ?_) | refine clR 96 tt rfl rfl rfl (hr := m3) (k := ?_) | refine clR 116 tt rfl rfl rfl (hr := a1) (k := ?_) | refine clR 95 tt rfl rfl rfl (hr := o) (k := ?_) | (refine gdRD rfl rfl (fun _ => ?_) (fun _ => ?_) <;> try (exfalso; omega)) | (refine gdRN rfl rfl (fun _ => ?_) (fun _ => ?_) <;> try (exfalso; omega)) | refine gdR rfl rfl (fun _ => ?_) (fun _ => ?_))
      | (show retPost _ _ _ _ _; first | refine finF true rfl rfl sc ?_ | refine finF false rfl rfl sc ?_ | refine finC false rfl rfl sc sc ?_ | refine finN rfl rfl sc ?_ | refine finL true rfl rfl sc rfl (LeR.cons rfl leL LeR.nil) ?_ | refine finE true rfl rfl sc ?_ | refine finE false rfl rfl sc ?_))
    all_goals rfl
theorem rational_Mul (r t : R3) (hr : RatOk r 1000000) (ht : RatOk t 1000000) : Ret Tryz.prog 59 [rD r, rD t] (· = rD (rq (rv r * rv t))) := by
  have tr := rational_value r (hr.up (by decide))
  have tk := rational_value t (ht.up (by decide))
  have or := okQ_rv hr (by decide)
  have ot := okQ_rv ht (by decide)
  generalize rv r = x at *
  generalize rv t = y at *
  have dx := rational_den x (or.mono (by decide))
  have dy := rational_den y (ot.mono (by decide))
  have nx := dL_nil x.den_nz
  have ny := dL_nil y.den_nz
  obtain ⟨x1, x2⟩ := or
  obtain ⟨y1, y2⟩ := ot
  have a0 := integer_MulZ x.num y.num (by omega) (by omega)
  by_cases hh : x.den = 1 ∧ y.den = 1
  · have e : rq (x * y) = (decide (x.num * y.num < 0), limbs (x.num * y.num).natAbs, []) := by
      have hx : x = (x.num : Rat) := int_of_den hh.1
      have hy : y = (y.num : Rat) := int_of_den hh.2
      have hs : x * y = ((x.num * y.num : Int) : Rat) := by
        conv => lhs; rw [hx, hy]
        rw [Rat.intCast_mul]
      rw [hs]; rfl
    have ex : rq x = (decide (x.num < 0), limbs x.num.natAbs, []) := by rw [rq, hh.1]; rfl
    have ey : rq y = (decide (y.num < 0), limbs y.num.natAbs, []) := by rw [rq, hh.2]; rfl
    rw [ex] at tr
    rw [ey] at tk
    rw [e]
    refine ret_of_awp tab Tryz.func59 rfl rfl (Nat.le_of_ble_eq_true rfl) (fun w0 F0 => ?_)
    repeat' (first
      | (show awpL _ _ _ _ _; first | refine goL ?_ | refine cl 93 tt rfl rfl rfl (hr := tr) (k := ?_) | refine cl 93 tt rfl rfl rfl (hr := tk) (k := ?_) | refine cl 94 tt rfl rfl rfl (hr := a0) (k := ?_) | (refine gdLD rfl rfl (fun _ => ?_) (fun _ => ?_) <;> try (exfalso; omega)) | (refine gdLN rfl rfl (fun _ => ?_) (fun _ => ?_) <;> try (exfalso; omega)) | refine gdL rfl rfl (fun _ => ?_) (fun _ => ?_))
      | (show awp _ _ _ _; first | refine goA ?_ | refine awp_reg 1 3 mixed (by kernel_rfl) (by kernel_rfl) ?_ | refine awp_reg 4 8 mixed (by kernel_rfl) (by kernel_rfl) ?_ | (refine awp_condD rfl (fun _ => ?_) (fun _ => ?_) <;> try (exfalso; omega)) | (refine awp_condN rfl (fun _ => ?_) (fun _ => ?_) <;> try (exfalso; omega)) | refine awp_cond rfl (fun _ => ?_) (fun _ => ?_))
      | (show andThen _ _ _ _; first | refine goN ?_)
      | (show inBlock _ _ _ _; first | refine goB ?_)
      | (show awpR _ _ _ _ _ _; first | refine goR ?_ | refine clR 93 tt rfl rfl rfl (hr := tr) (k := ?_) | refine clR 93 tt rfl rfl rfl (hr := tk) (k := ?_) | refine clR 94 tt rfl rfl rfl (hr := a0) (k := ?_) | (refine gdRD rfl rfl (fun _ => ?_) (fun _ => ?_) <;> try (exfalso; omega)) | (refine gdRN rfl rfl (fun _ => ?_) (fun _ => ?_) <;> try (exfalso; omega)) | refine gdR rfl rfl (fun _ => ?_) (fun _ => ?_))
      | (show retPost _ _ _ _ _; first | refine finF true rfl rfl sc ?_ | refine finF false rfl rfl sc ?_ | refine finC false rfl rfl sc sc ?_ | refine finN rfl rfl sc ?_ | refine finL true rfl rfl sc rfl (LeR.cons rfl leL LeR.nil) ?_ | refine finA true rfl rfl sc ?_ | refine finA false rfl rfl sc ?_ | refine finE true rfl rfl sc ?_ | refine finE false rfl rfl sc ?_))
    exact leL
  · have m3 := natural_MulN x.den y.den (by omega) (by omega)
    have l1 := ln_mul x.num.natAbs y.num.natAbs
    have l3 := ln_mul x.den y.den
    simp only [ln] at l1 l3
    have e1 : (x.num * y.num).natAbs = x.num.natAbs * y.num.natAbs := Int.natAbs_mul _ _
    have o := rational_lowest (x.num * y.num) (x.den * y.den) (Nat.mul_ne_zero x.den_nz y.den_nz) (by rw [e1]; omega) (by omega)
    rw [show Rat.divInt (x.num * y.num) ((x.den * y.den : Nat) : Int) = x * y by rw [Rat.mul_def', ← Rat.divInt_ofNat]] at o
    have hl : (rq x).2.2.length ≠ 0 ∨ (rq y).2.2.length ≠ 0 := by show (dL x.den).length ≠ 0 ∨ (dL y.den).length ≠ 0; rw [ne_eq, nx, ne_eq, ny]; omega
    clear l1 l3 e1
    refine ret_of_awp tab Tryz.func59 rfl rfl (Nat.le_of_ble_eq_true rfl) (fun w0 F0 => ?_)
    repeat' (first
      | (show awpL _ _ _ _ _; first | refine goL ?_ | refine cl 93 tt rfl rfl rfl (hr := tr) (k := ?_) | refine cl 93 tt rfl rfl rfl (hr := tk) (k := ?_) | refine cl 97 tt rfl rfl rfl (hr := dx) (k := ?_) | refine cl 97 tt rfl rfl rfl (hr := dy) (k := ?_) | refine cl 96 tt rfl rfl rfl (hr := m3) (k := ?_) | refine cl 94 tt rfl rfl rfl (hr := a0) (k := ?_) | refine cl 95 tt rfl rfl rfl (hr := o) (k := ?_) | (refine gdLD rfl rfl (fun _ => ?_) (fun _ => ?_) <;> try (exfalso; omega)) | (refine gdLN rfl rfl (fun _ => ?_) (fun _ => ?_) <;> try (exfalso; omega)) | refine gdL rfl rfl (fun _ => ?_) (fun _ => ?_))
      | (show awp _ _ _ _; first | refine goA ?_ | refine awp_reg 1 3 mixed (by kernel_rfl) (by kernel_rfl) ?_ | refine awp_reg 4 8 mixed (by kernel_rfl) (by kernel_rfl) ?_ | (refine awp_condD rfl (fun _ => ?_) (fun _ => ?_) <;> try (exfalso; omega)) | (refine awp_condN rfl (fun _ => ?_) (fun _ => ?_) <;> try (exfalso; omega)) | refine awp_cond rfl (fun _ => ?_) (fun _ => ?_))
      | (show andThen _ _ _ _; first | refine goN ?_)
      | (show inBlock _ _ _ _; first | refine goB ?_)
      | (show awpR _ _ _ _ _ _; first | refine goR ?_ | refine clR 93 tt rfl rfl rfl (hr := tr) (k := ?_) | refine clR 93 tt rfl rfl rfl (hr := tk) (k := ?_) | refine clR 97 tt rfl rfl rfl (hr := dx) (k := ?_) | refine clR 97 tt rfl rfl rfl (hr := dy) (k := ?_) | refine clR 96 tt rfl rfl rfl (hr := m3) (k := ?_) | refine clR 94 tt rfl rfl rfl (hr := a0) (k := ?_) | refine clR 95 tt rfl rfl rfl (hr := o) (k := ?_) | (refine gdRD rfl rfl (fun _ => ?_) (fun _ => ?_) <;> try (exfalso; omega)) | (refine gdRN rfl rfl (fun _ => ?_) (fun _ => ?_) <;> try (exfalso; omega)) | refine gdR rfl rfl (fun _ => ?_) (fun _ => ?_))
      | (show retPost _ _ _ _ _; first | refine finF true rfl rfl sc ?_ | refine finF false rfl rfl sc ?_ | refine finC false rfl rfl sc sc ?_ | refine finN rfl rfl sc ?_ | refine finL true rfl rfl sc rfl (LeR.cons rfl leL LeR.nil) ?_ | refine finE true rfl rfl sc ?_ | refine finE false rfl rfl sc ?_))
    all_goals rfl
theorem rational_Sub (r t : R3) (hr : RatOk r 1000000) (ht : RatOk t 1000000) : Ret Tryz.prog 75 [rD r, rD t] (· = rD (rq (rv r - rv t))) := by
  have hn := rational_Neg t ht
  have or := okQ_rv ht (by decide)
  have on : okQ 1000000 (-rv t) := ⟨by rw [Rat.neg_num, Int.natAbs_neg]; exact or.1, by rw [Rat.neg_den]; exact or.2⟩
  have ha := rational_Add r (rq (-rv t)) hr (ok_rq on)
  rw [rv_rq, ← Rat.sub_eq_add_neg] at ha
  refine ret_of_awp tab Tryz.func75 rfl rfl (Nat.le_of_ble_eq_true rfl) (fun w0 F0 => ?_)
  repeat' (first
    | (show awpL _ _ _ _ _; first | refine goL ?_ | refine cl 117 tt rfl rfl rfl (hr := hn) (k := ?_) | refine cl 74 tt rfl rfl rfl (hr := ha) (k := ?_) | (refine gdLD rfl rfl (fun _ => ?_) (fun _ => ?_) <;> try (exfalso; omega)) | (refine gdLN rfl rfl (fun _ => ?_) (fun _ => ?_) <;> try (exfalso; omega)) | refine gdL rfl rfl (fun _ => ?_) (fun _ => ?_))
    | (show awp _ _ _ _; first | refine goA ?_ | refine awp_reg 1 3 mixed (by kernel_rfl) (by kernel_rfl) ?_ | (refine awp_condD rfl (fun _ => ?_) (fun _ => ?_) <;> try (exfalso; omega)) | (refine awp_condN rfl (fun _ => ?_) (fun _ => ?_) <;> try (exfalso; omega)) | refine awp_cond rfl (fun _ => ?_) (fun _ => ?_))
    | (show andThen _ _ _ _; first | refine goN ?_)
    | (show inBlock _ _ _ _; first | refine goB ?_)
    | (show awpR _ _ _ _ _ _; first | refine goR ?_ | refine clR 117 tt rfl rfl rfl (hr := hn) (k := ?_) | refine clR 74 tt rfl rfl rfl (hr := ha) (k := ?_) | (refine gdRD rfl rfl (fun _ => ?_) (fun _ => ?_) <;> try (exfalso; omega)) | (refine gdRN rfl rfl (fun _ => ?_) (fun _ => ?_) <;> try (exfalso; omega)) | refine gdR rfl rfl (fun _ => ?_) (fun _ => ?_))
    | (show retPost _ _ _ _ _; first | refine finF true rfl rfl sc ?_ | refine finF false rfl rfl sc ?_ | refine finC false rfl rfl sc sc ?_ | refine finN rfl rfl sc ?_ | refine finL true rfl rfl sc rfl (LeR.cons rfl leL LeR.nil) ?_ | refine finE true rfl rfl sc ?_ | refine finE false rfl rfl sc ?_))
  rfl
theorem rational_Make (a b : Int) (ha : (limbs a.natAbs).length < 10000000) (hb : (limbs b.natAbs).length < 10000000) : Ret Tryz.prog 106 [zD a, zD b] (· = if b = 0 then .tup [rD r0, .int .i64 5] else .tup [rD (rq (Rat.divInt a b)), .int .i64 0]) := by
  have hs := integer_SignZ b (by omega)
  by_cases h0 : b = 0
  · rw [if_pos h0]
    rw [h0] at hs ⊢
    have : (0 : Int).sign = 0 := rfl
    rw [this] at hs
    refine ret_of_awp tab Tryz.func106 rfl rfl (Nat.le_of_ble_eq_true rfl) (fun w0 F0 => ?_)
    repeat' (first
      | (show awpL _ _ _ _ _; first | refine goL ?_ | refine cl 104 tt rfl rfl rfl (hr := hs) (k := ?_) | (refine gdLD rfl rfl (fun _ => ?_) (fun _ => ?_) <;> try (exfalso; omega)) | (refine gdLN rfl rfl (fun _ => ?_) (fun _ => ?_) <;> try (exfalso; omega)) | refine gdL rfl rfl (fun _ => ?_) (fun _ => ?_))
      | (show awp _ _ _ _; first | refine goA ?_ | refine awp_reg 5 5 mixed (by kernel_rfl) (by kernel_rfl) ?_ | (refine awp_condD rfl (fun _ => ?_) (fun _ => ?_) <;> try (exfalso; omega)) | (refine awp_condN rfl (fun _ => ?_) (fun _ => ?_) <;> try (exfalso; omega)) | refine awp_cond rfl (fun _ => ?_) (fun _ => ?_))
      | (show andThen _ _ _ _; first | refine goN ?_)
      | (show inBlock _ _ _ _; first | refine goB ?_)
      | (show awpR _ _ _ _ _ _; first | refine goR ?_ | refine clR 104 tt rfl rfl rfl (hr := hs) (k := ?_) | (refine gdRD rfl rfl (fun _ => ?_) (fun _ => ?_) <;> try (exfalso; omega)) | (refine gdRN rfl rfl (fun _ => ?_) (fun _ => ?_) <;> try (exfalso; omega)) | refine gdR rfl rfl (fun _ => ?_) (fun _ => ?_))
      | (show retPost _ _ _ _ _; first | refine finF true rfl rfl sc ?_ | refine finF false rfl rfl sc ?_ | refine finC false rfl rfl sc sc ?_ | refine finN rfl rfl sc ?_ | refine finL true rfl rfl sc rfl (LeR.cons rfl leL LeR.nil) ?_ | refine finT true rfl rfl sc ?_ | refine finT false rfl rfl sc ?_ | refine finE true rfl rfl sc ?_ | refine finE false rfl rfl sc ?_))
    exact leT
  · rw [if_neg h0]
    have hab := divInt_abs a b
    by_cases hn : b < 0
    · rw [if_pos hn] at hab
      rw [Int.sign_eq_neg_one_of_neg hn] at hs
      have hne := integer_NegZ a (by omega)
      have had := integer_AddZ (-a) 0 (by rw [Int.natAbs_neg]; omega) (by show (limbs 0).length < _; rw [limbs_zero]; simp)
      rw [zD_zero, Int.add_zero] at had
      have hlo := rational_lowest (-a) b.natAbs (by omega) (by rw [Int.natAbs_neg]; exact ha) hb
      rw [hab] at hlo
      refine ret_of_awp tab Tryz.func106 rfl rfl (Nat.le_of_ble_eq_true rfl) (fun w0 F0 => ?_)
      repeat' (first
        | (show awpL _ _ _ _ _; first | refine goL ?_ | refine cl 104 tt rfl rfl rfl (hr := hs) (k := ?_) | refine cl 132 tt rfl rfl rfl (hr := hne) (k := ?_) | refine cl 116 tt rfl rfl rfl (hr := had) (k := ?_) | refine cl 95 tt rfl rfl rfl (hr := hlo) (k := ?_) | (refine gdLD rfl rfl (fun _ => ?_) (fun _ => ?_) <;> try (exfalso; omega)) | (refine gdLN rfl rfl (fun _ => ?_) (fun _ => ?_) <;> try (exfalso; omega)) | refine gdL rfl rfl (fun _ => ?_) (fun _ => ?_))
        | (show awp _ _ _ _; first | refine goA ?_ | refine awp_reg 5 5 mixed (by kernel_rfl) (by kernel_rfl) ?_ | (refine awp_condD rfl (fun _ => ?_) (fun _ => ?_) <;> try (exfalso; omega)) | (refine awp_condN rfl (fun _ => ?_) (fun _ => ?_) <;> try (exfalso; omega)) | refine awp_cond rfl (fun _ => ?_) (fun _ => ?_))
        | (show andThen _ _ _ _; first | refine goN ?_)
        | (show inBlock _ _ _ _; first | refine goB ?_)
        | (show awpR _ _ _ _ _ _; first | refine goR ?_ | refine clR 104 tt rfl rfl rfl (hr := hs) (k := ?_) | refine clR 132 tt rfl rfl rfl (hr := hne) (k := ?_) | refine clR 116 tt rfl rfl rfl (hr := had) (k := ?_) | refine clR 95 tt rfl rfl rfl (hr := hlo) (k := ?_) | (refine gdRD rfl rfl (fun _ => ?_) (fun _ => ?_) <;> try (exfalso; omega)) | (refine gdRN rfl rfl (fun _ => ?_) (fun _ => ?_) <;> try (exfalso; omega)) | refine gdR rfl rfl (fun _ => ?_) (fun _ => ?_))
        | (show retPost _ _ _ _ _; first | refine finF true rfl rfl sc ?_ | refine finF false rfl rfl sc ?_ | refine finC false rfl rfl sc sc ?_ | refine finN rfl rfl sc ?_ | refine finL true rfl rfl sc rfl (LeR.cons rfl leL LeR.nil) ?_ | refine finT true rfl rfl sc ?_ | refine finT false rfl rfl sc ?_ | refine finE true rfl rfl sc ?_ | refine finE false rfl rfl sc ?_))
      exact leT
    · rw [if_neg hn] at hab
      rw [Int.sign_eq_one_of_pos (by omega)] at hs
      have had := integer_AddZ a 0 (by omega) (by show (limbs 0).length < _; rw [limbs_zero]; simp)
      rw [zD_zero, Int.add_zero] at had
      have hlo := rational_lowest a b.natAbs (by omega) ha hb
      rw [hab] at hlo
      refine ret_of_awp tab Tryz.func106 rfl rfl (Nat.le_of_ble_eq_true rfl) (fun w0 F0 => ?_)
      repeat' (first
        | (show awpL _ _ _ _ _; first | refine goL ?_ | refine cl 104 tt rfl rfl rfl (hr := hs) (k := ?_) | refine cl 116 tt rfl rfl rfl (hr := had) (k := ?_) | refine cl 95 tt rfl rfl rfl (hr := hlo) (k := ?_) | (refine gdLD rfl rfl (fun _ => ?_) (fun _ => ?_) <;> try (exfalso; omega)) | (refine gdLN rfl rfl (fun _ => ?_) (fun _ => ?_) <;> try (exfalso; omega)) | refine gdL rfl rfl (fun _ => ?_) (fun _ => ?_))
        | (show awp _ _ _ _; first | refine goA ?_ | refine awp_reg 5 5 mixed (by kernel_rfl) (by kernel_rfl) ?_ | (refine awp_condD rfl (fun _ => ?_) (fun _ => ?_) <;> try (exfalso; omega)) | (refine awp_condN rfl (fun _ => ?_) (fun _ => ?_) <;> try (exfalso; omega)) | refine awp_cond rfl (fun _ => ?_) (fun _ => ?_))
        | (show andThen _ _ _ _; first | refine goN ?_)
        | (show inBlock _ _ _ _; first | refine goB ?_)
        | (show awpR _ _ _ _ _ _; first | refine goR ?_ | refine clR 104 tt rfl rfl rfl (hr := hs) (k := ?_) | refine clR 116 tt rfl rfl rfl (hr := had) (k := ?_) | refine clR 95 tt rfl rfl rfl (hr := hlo) (k := ?_) | (refine gdRD rfl rfl (fun _ => ?_) (fun _ => ?_) <;> try (exfalso; omega)) | (refine gdRN rfl rfl (fun _ => ?_) (fun _ => ?_) <;> try (exfalso; omega)) | refine gdR rfl rfl (fun _ => ?_) (fun _ => ?_))
        | (show retPost _ _ _ _ _; first | refine finF true rfl rfl sc ?_ | refine finF false rfl rfl sc ?_ | refine finC false rfl rfl sc sc ?_ | refine finN rfl rfl sc ?_ | refine finL true rfl rfl sc rfl (LeR.cons rfl leL LeR.nil) ?_ | refine finT true rfl rfl sc ?_ | refine finT false rfl rfl sc ?_ | refine finE true rfl rfl sc ?_ | refine finE false rfl rfl sc ?_))
      exact leT
theorem rational_Div (r t : R3) (hr : RatOk r 1000000) (ht : RatOk t 1000000) : Ret Tryz.prog 69 [rD r, rD t] (· = if rv t = 0 then .tup [rD r0, .int .i64 5] else .tup [rD (rq (rv r / rv t)), .int .i64 0]) := by
  have tr := rational_value r (hr.up (by decide))
  have tk := rational_value t (ht.up (by decide))
  have or := okQ_rv hr (by decide)
  have ot := okQ_rv ht (by decide)
  generalize rv r = x at *
  generalize rv t = y at *
  have dx := rational_den x (or.mono (by decide))
  have dy := rational_den y (ot.mono (by decide))
  obtain ⟨x1, x2⟩ := or
  obtain ⟨y1, y2⟩ := ot
  have m1 := rational_times x.num y.den (by omega) (by omega)
  have m2 := rational_times y.num x.den (by omega) (by omega)
  have l1 := ln_mul x.num.natAbs y.den
  have l2 := ln_mul y.num.natAbs x.den
  simp only [ln] at l1 l2
  have e1 : (x.num * (y.den : Int)).natAbs = x.num.natAbs * y.den := by rw [Int.natAbs_mul, Int.natAbs_natCast]
  have e2 : (y.num * (x.den : Int)).natAbs = y.num.natAbs * x.den := by rw [Int.natAbs_mul, Int.natAbs_natCast]
  have hm := rational_Make (x.num * y.den) (y.num * x.den) (by rw [e1]; omega) (by rw [e2]; omega)
  have hd : (x.den : Int) ≠ 0 := by have := x.den_nz; omega
  have h0 : y.num * x.den = 0 ↔ y = 0 := by
    rw [Int.mul_eq_zero, Rat.num_eq_zero]; exact ⟨fun h => h.elim id fun h => absurd h hd, .inl⟩
  by_cases hy : y = 0
  · rw [if_pos hy]
    rw [if_pos (h0.2 hy)] at hm
    refine ret_of_awp tab Tryz.func69 rfl rfl (Nat.le_of_ble_eq_true rfl) (fun w0 F0 => ?_)
    repeat' (first
      | (show awpL _ _ _ _ _; first | refine goL ?_ | refine cl 93 tt rfl rfl rfl (hr := tr) (k := ?_) | refine cl 93 tt rfl rfl rfl (hr := tk) (k := ?_) | refine cl 97 tt rfl rfl rfl (hr := dx) (k := ?_) | refine cl 97 tt rfl rfl rfl (hr := dy) (k := ?_) | refine cl 107 tt rfl rfl rfl (hr := m1) (k := ?_) | refine cl 107 tt rfl rfl rfl (hr := m2) (k := ?_) | refine cl 106 tt rfl rfl rfl (hr := hm) (k := ?_) | (refine gdLD rfl rfl (fun _ => ?_) (fun _ => ?_) <;> try (exfalso; omega)) | (refine gdLN rfl rfl (fun _ => ?_) (fun _ => ?_) <;> try (exfalso; omega)) | refine gdL rfl rfl (fun _ => ?_) (fun _ => ?_))
      | (show awp _ _ _ _; first | refine goA ?_ | refine awp_reg 1 3 mixed (by kernel_rfl) (by kernel_rfl) ?_ | refine awp_reg 2 13 mixed (by kernel_rfl) (by kernel_rfl) ?_ | (refine awp_condD rfl (fun _ => ?_) (fun _ => ?_) <;> try (exfalso; omega)) | (refine awp_condN rfl (fun _ => ?_) (fun _ => ?_) <;> try (exfalso; omega)) | refine awp_cond rfl (fun _ => ?_) (fun _ => ?_))
      | (show andThen _ _ _ _; first | refine goN ?_)
      | (show inBlock _ _ _ _; first | refine goB ?_)
      | (show awpR _ _ _ _ _ _; first | refine goR ?_ | refine clR 93 tt rfl rfl rfl (hr := tr) (k := ?_) | refine clR 93 tt rfl rfl rfl (hr := tk) (k := ?_) | refine clR 97 tt rfl rfl rfl (hr := dx) (k := ?_) | refine clR 97 tt rfl rfl rfl (hr := dy) (k := ?_) | refine clR 107 tt rfl rfl rfl (hr := m1) (k := ?_) | refine clR 107 tt rfl rfl rfl (hr := m2) (k := ?_) | refine clR 106 tt rfl rfl rfl (hr := hm) (k := ?_) | (refine gdRD rfl rfl (fun _ => ?_) (fun _ => ?_) <;> try (exfalso; omega)) | (refine gdRN rfl rfl (fun _ => ?_) (fun _ => ?_) <;> try (exfalso; omega)) | refine gdR rfl rfl (fun _ => ?_) (fun _ => ?_))
      | (show retPost _ _ _ _ _; first | refine finF true rfl rfl sc ?_ | refine finF false rfl rfl sc ?_ | refine finC false rfl rfl sc sc ?_ | refine finN rfl rfl sc ?_ | refine finL true rfl rfl sc rfl (LeR.cons rfl leL LeR.nil) ?_ | refine finT true rfl rfl sc ?_ | refine finT false rfl rfl sc ?_ | refine finE true rfl rfl sc ?_ | refine finE false rfl rfl sc ?_))
    exact leT
  · rw [if_neg hy]
    rw [if_neg (mt h0.1 hy)] at hm
    rw [divInt_div] at hm
    refine ret_of_awp tab Tryz.func69 rfl rfl (Nat.le_of_ble_eq_true rfl) (fun w0 F0 => ?_)
    repeat' (first
      | (show awpL _ _ _ _ _; first | refine goL ?_ | refine cl 93 tt rfl rfl rfl (hr := tr) (k := ?_) | refine cl 93 tt rfl rfl rfl (hr := tk) (k := ?_) | refine cl 97 tt rfl rfl rfl (hr := dx) (k := ?_) | refine cl 97 tt rfl rfl rfl (hr := dy) (k := ?_) | refine cl 107 tt rfl rfl rfl (hr := m1) (k := ?_) | refine cl 107 tt rfl rfl rfl (hr := m2) (k := ?_) | refine cl 106 tt rfl rfl rfl (hr := hm) (k := ?_) | (refine gdLD rfl rfl (fun _ => ?_) (fun _ => ?_) <;> try (exfalso; omega)) | (refine gdLN rfl rfl (fun _ => ?_) (fun _ => ?_) <;> try (exfalso; omega)) | refine gdL rfl rfl (fun _ => ?_) (fun _ => ?_))
      | (show awp _ _ _ _; first | refine goA ?_ | refine awp_reg 1 3 mixed (by kernel_rfl) (by kernel_rfl) ?_ | refine awp_reg 2 13 mixed (by kernel_rfl) (by kernel_rfl) ?_ | (refine awp_condD rfl (fun _ => ?_) (fun _ => ?_) <;> try (exfalso; omega)) | (refine awp_condN rfl (fun _ => ?_) (fun _ => ?_) <;> try (exfalso; omega)) | refine awp_cond rfl (fun _ => ?_) (fun _ => ?_))
      | (show andThen _ _ _ _; first | refine goN ?_)
      | (show inBlock _ _ _ _; first | refine goB ?_)
      | (show awpR _ _ _ _ _ _; first | refine goR ?_ | refine clR 93 tt rfl rfl rfl (hr := tr) (k := ?_) | refine clR 93 tt rfl rfl rfl (hr := tk) (k := ?_) | refine clR 97 tt rfl rfl rfl (hr := dx) (k := ?_) | refine clR 97 tt rfl rfl rfl (hr := dy) (k := ?_) | refine clR 107 tt rfl rfl rfl (hr := m1) (k := ?_) | refine clR 107 tt rfl rfl rfl (hr := m2) (k := ?_) | refine clR 106 tt rfl rfl rfl (hr := hm) (k := ?_) | (refine gdRD rfl rfl (fun _ => ?_) (fun _ => ?_) <;> try (exfalso; omega)) | (refine gdRN rfl rfl (fun _ => ?_) (fun _ => ?_) <;> try (exfalso; omega)) | refine gdR rfl rfl (fun _ => ?_) (fun _ => ?_))
      | (show retPost _ _ _ _ _; first | refine finF true rfl rfl sc ?_ | refine finF false rfl rfl sc ?_ | refine finC false rfl rfl sc sc ?_ | refine finN rfl rfl sc ?_ | refine finL true rfl rfl sc rfl (LeR.cons rfl leL LeR.nil) ?_ | refine finT true rfl rfl sc ?_ | refine finT false rfl rfl sc ?_ | refine finE true rfl rfl sc ?_ | refine finE false rfl rfl sc ?_))
    exact leT
end Go.Proofs.YtjjefhbceoeibaaGreat

/-
  Rational numbers: sizes of results, order, whole parts. Conditions: as each says.
-/
set_option linter.unusedVariables false
set_option linter.unusedSimpArgs false
namespace Go.Vw
theorem divInt_le (a b : Int) (hb : b ≠ 0) : (Rat.divInt a b).num.natAbs ≤ a.natAbs ∧ (Rat.divInt a b).den ≤ b.natAbs := by
  rw [Rat.num_divInt, Rat.den_divInt, if_neg hb]
  refine ⟨?_, Nat.div_le_self _ _⟩
  have hg : 0 < Int.gcd b a := Int.gcd_pos_of_ne_zero_left _ hb
  have hd : ((Int.gcd b a : Nat) : Int) ∣ b.sign * a := Int.dvd_trans (Int.gcd_dvd_right b a) (Int.dvd_mul_left _ _)
  rw [Int.natAbs_ediv_of_dvd hd, Int.natAbs_mul]
  have h1 : b.sign.natAbs = 1 := by rw [Int.natAbs_sign, if_neg hb]
  rw [h1, Nat.one_mul]
  exact Nat.div_le_self _ _
theorem okQ_divInt {a b : Int} {k : Nat} (hb : b ≠ 0) (ha : (limbs a.natAbs).length < k) (hb2 : (limbs b.natAbs).length < k) : okQ k (Rat.divInt a b) :=
  ⟨Nat.lt_of_le_of_lt (limbs_len_mono (divInt_le a b hb).1) ha, Nat.lt_of_le_of_lt (limbs_len_mono (divInt_le a b hb).2) hb2⟩
theorem den_ne (x : Rat) : (x.den : Int) ≠ 0 := by have := x.den_nz; omega
theorem add_divInt (x y : Rat) : x + y = Rat.divInt (x.num * y.den + y.num * x.den) ((x.den * y.den : Nat) : Int) := by rw [Rat.add_def', ← Rat.divInt_ofNat]
theorem mul_divInt (x y : Rat) : x * y = Rat.divInt (x.num * y.num) ((x.den * y.den : Nat) : Int) := by rw [Rat.mul_def', ← Rat.divInt_ofNat]
theorem okQ.add {x y : Rat} {k l : Nat} (hx : okQ k x) (hy : okQ l y) : okQ (k + l) (x + y) := by
  rw [add_divInt]
  have l1 := ln_mul x.num.natAbs y.den
  have l2 := ln_mul y.num.natAbs x.den
  have l3 := ln_mul x.den y.den
  have e1 : (x.num * (y.den : Int)).natAbs = x.num.natAbs * y.den := by rw [Int.natAbs_mul, Int.natAbs_natCast]
  have e2 : (y.num * (x.den : Int)).natAbs = y.num.natAbs * x.den := by rw [Int.natAbs_mul, Int.natAbs_natCast]
  have l4 := ln_mono (Int.natAbs_add_le (x.num * y.den) (y.num * x.den))
  obtain ⟨x1, x2⟩ := hx
  obtain ⟨y1, y2⟩ := hy
  simp only [ln] at l1 l2 l3 l4
  have l5 := ln_add1 (m := (x.num * (y.den : Int)).natAbs) (n := (y.num * (x.den : Int)).natAbs) (k := k + l - 2) (by simp only [ln]; rw [e1]; omega) (by simp only [ln]; rw [e2]; omega)
  simp only [ln] at l5
  refine okQ_divInt (by have := Nat.mul_ne_zero x.den_nz y.den_nz; omega) (by omega) (by rw [Int.natAbs_natCast]; omega)
theorem okQ.mul {x y : Rat} {k l : Nat} (hx : okQ k x) (hy : okQ l y) : okQ (k + l) (x * y) := by
  rw [mul_divInt]
  have l1 := ln_mul x.num.natAbs y.num.natAbs
  have l3 := ln_mul x.den y.den
  have e1 : (x.num * y.num).natAbs = x.num.natAbs * y.num.natAbs := Int.natAbs_mul _ _
  obtain ⟨x1, x2⟩ := hx
  obtain ⟨y1, y2⟩ := hy
  simp only [ln] at l1 l3
  refine okQ_divInt (by have := Nat.mul_ne_zero x.den_nz y.den_nz; omega) (by rw [e1]; omega) (by rw [Int.natAbs_natCast]; omega)
theorem okQ.neg {x : Rat} {k : Nat} (hx : okQ k x) : okQ k (-x) := ⟨by rw [Rat.neg_num, Int.natAbs_neg]; exact hx.1, by rw [Rat.neg_den]; exact hx.2⟩
theorem okQ.sub {x y : Rat} {k l : Nat} (hx : okQ k x) (hy : okQ l y) : okQ (k + l) (x - y) := by rw [Rat.sub_eq_add_neg]; exact hx.add hy.neg
theorem okQ.div {x y : Rat} {k l : Nat} (hx : okQ k x) (hy : okQ l y) (h0 : y ≠ 0) : okQ (k + l) (x / y) := by
  rw [← divInt_div]
  have l1 := ln_mul x.num.natAbs y.den
  have l2 := ln_mul y.num.natAbs x.den
  have e1 : (x.num * (y.den : Int)).natAbs = x.num.natAbs * y.den := by rw [Int.natAbs_mul, Int.natAbs_natCast]
  have e2 : (y.num * (x.den : Int)).natAbs = y.num.natAbs * x.den := by rw [Int.natAbs_mul, Int.natAbs_natCast]
  obtain ⟨x1, x2⟩ := hx
  obtain ⟨y1, y2⟩ := hy
  simp only [ln] at l1 l2
  refine okQ_divInt (Int.mul_ne_zero (mt Rat.num_eq_zero.1 h0) (den_ne x)) (by rw [e1]; omega) (by rw [e2]; omega)
theorem num_lt0 {q : Rat} : q.num < 0 ↔ q < 0 := by
  rw [← Rat.not_le, ← Rat.num_nonneg]; omega
theorem num_gt0 {q : Rat} : 0 < q.num ↔ 0 < q := by
  have h1 := Rat.num_nonneg (q := q)
  have h2 := Rat.num_eq_zero (q := q)
  constructor
  · intro h
    have := h1.1 (by omega)
    have : q ≠ 0 := fun e => by have := h2.2 e; omega
    grind
  · intro h
    have := h1.2 (by grind)
    have : q.num ≠ 0 := fun e => by have := h2.1 e; grind
    omega
/-- The sign of the difference. -/
theorem sign_sub (x y : Rat) : (x - y).num.sign = cmpQ x y := by
  unfold cmpQ
  by_cases h : x < y
  · rw [if_pos h]
    refine Int.sign_eq_neg_one_of_neg ?_
    have : x - y < 0 := by grind
    exact num_lt0.2 this
  · rw [if_neg h]
    by_cases h2 : y < x
    · rw [if_pos h2]
      refine Int.sign_eq_one_of_pos ?_
      have : 0 < x - y := by grind
      exact num_gt0.2 this
    · rw [if_neg h2]
      have : x - y = 0 := by grind
      rw [this]; rfl
theorem cmpQ_neg (x y : Rat) : cmpQ x y < 0 ↔ x < y := by
  unfold cmpQ
  constructor
  · intro h; split at h
    · assumption
    · split at h <;> omega
  · intro h; rw [if_pos h]; decide
theorem cmpQ_pos (x y : Rat) : 0 < cmpQ x y ↔ y < x := by
  unfold cmpQ
  constructor
  · intro h; split at h
    · omega
    · split at h
      · assumption
      · omega
  · intro h; rw [if_neg (by grind), if_pos h]; decide
theorem cmpQ_zero (x y : Rat) : cmpQ x y = 0 ↔ x = y := by
  unfold cmpQ
  constructor
  · intro h; split at h
    · omega
    · split at h
      · omega
      · grind
  · intro h; subst h; rw [if_neg (by grind), if_neg (by grind)]
theorem cmpQ_range (x y : Rat) : -1 ≤ cmpQ x y ∧ cmpQ x y ≤ 1 := by unfold cmpQ; split <;> (try split) <;> omega
end Go.Vw

set_option linter.unusedVariables false
set_option linter.unusedSimpArgs false
namespace Go.Proofs.YtjjefhbceoeibaaGreat
open Go.Vw
attribute [local irreducible] awp awpL awpR

theorem rational_Floor (r : R3) (hr : RatOk r 1000000) : Ret Tryz.prog 68 [rD r] (· = zD (rv r).floor) := by
  have tr := rational_value r (hr.up (by decide))
  have or := okQ_rv hr (by decide)
  generalize rv r = x at *
  have dx := rational_den x (or.mono (by decide))
  obtain ⟨x1, x2⟩ := or
  have hd := integer_DivZ x.num x.den (by omega) (by rw [Int.natAbs_natCast]; omega) (den_ne x)
  rw [← Rat.floor_def, zD_nat] at hd
  refine ret_of_awp tab Tryz.func68 rfl rfl (Nat.le_of_ble_eq_true rfl) (fun w0 F0 => ?_)
  repeat' (first
    | (show awpL _ _ _ _ _; first | refine goL ?_ | refine cl 93 tt rfl rfl rfl (hr := tr) (k := ?_) | refine cl 97 tt rfl rfl rfl (hr := dx) (k := ?_) | refine cl 105 tt rfl rfl rfl (hr := hd) (k := ?_) | (refine gdLD rfl rfl (fun _ => ?_) (fun _ => ?_) <;> try (exfalso; omega)) | (refine gdLN rfl rfl (fun _ => ?_) (fun _ => ?_) <;> try (exfalso; omega)) | refine gdL rfl rfl (fun _ => ?_) (fun _ => ?_))
    | (show awp _ _ _ _; first | refine goA ?_ | refine awp_regK 2 14 [3, 4] mixed (by kernel_rfl) (by kernel_rfl) (by kernel_rfl) ?_ | (refine awp_condD rfl (fun _ => ?_) (fun _ => ?_) <;> try (exfalso; omega)) | (refine awp_condN rfl (fun _ => ?_) (fun _ => ?_) <;> try (exfalso; omega)) | refine awp_cond rfl (fun _ => ?_) (fun _ => ?_))
    | (show andThen _ _ _ _; first | refine goN ?_)
    | (show inBlock _ _ _ _; first | refine goB ?_)
    | (show awpR _ _ _ _ _ _; first | refine goR ?_ | refine clR 93 tt rfl rfl rfl (hr := tr) (k := ?_) | refine clR 97 tt rfl rfl rfl (hr := dx) (k := ?_) | refine clR 105 tt rfl rfl rfl (hr := hd) (k := ?_) | (refine gdRD rfl rfl (fun _ => ?_) (fun _ => ?_) <;> try (exfalso; omega)) | (refine gdRN rfl rfl (fun _ => ?_) (fun _ => ?_) <;> try (exfalso; omega)) | refine gdR rfl rfl (fun _ => ?_) (fun _ => ?_))
    | (show retPost _ _ _ _ _; first | refine finF true rfl rfl sc ?_ | refine finF false rfl rfl sc ?_ | refine finC false rfl rfl sc sc ?_ | refine finN rfl rfl sc ?_ | refine finL true rfl rfl sc rfl (LeR.cons rfl leL LeR.nil) ?_ | refine finE true rfl rfl sc ?_ | refine finE false rfl rfl sc ?_))
  rfl
theorem ref03_Floor (r : R3) (hr : RatOk r 1000000) : Ret Tryz.prog 81 [rD r] (· = zD (rv r).floor) := by
  have tr := ref03_Take r (hr.up (by decide))
  have or := okQ_rv hr (by decide)
  generalize rv r = x at *
  have dx := ref03_Den x (or.mono (by decide))
  obtain ⟨x1, x2⟩ := or
  have hd := ref02_DivZ x.num x.den (by omega) (by rw [Int.natAbs_natCast]; omega) (den_ne x)
  rw [← Rat.floor_def] at hd
  refine ret_of_awp tab Tryz.func81 rfl rfl (Nat.le_of_ble_eq_true rfl) (fun w0 F0 => ?_)
  repeat' (first
    | (show awpL _ _ _ _ _; first | refine goL ?_ | refine cl 60 tt rfl rfl rfl (hr := tr) (k := ?_) | refine cl 63 tt rfl rfl rfl (hr := dx) (k := ?_) | refine cl 102 tt rfl rfl rfl (hr := hd) (k := ?_) | (refine gdLD rfl rfl (fun _ => ?_) (fun _ => ?_) <;> try (exfalso; omega)) | (refine gdLN rfl rfl (fun _ => ?_) (fun _ => ?_) <;> try (exfalso; omega)) | refine gdL rfl rfl (fun _ => ?_) (fun _ => ?_))
    | (show awp _ _ _ _; first | refine goA ?_ | refine awp_regK 2 13 [3, 4] mixed (by kernel_rfl) (by kernel_rfl) (by kernel_rfl) ?_ | (refine awp_condD rfl (fun _ => ?_) (fun _ => ?_) <;> try (exfalso; omega)) | (refine awp_condN rfl (fun _ => ?_) (fun _ => ?_) <;> try (exfalso; omega)) | refine awp_cond rfl (fun _ => ?_) (fun _ => ?_))
    | (show andThen _ _ _ _; first | refine goN ?_)
    | (show inBlock _ _ _ _; first | refine goB ?_)
    | (show awpR _ _ _ _ _ _; first | refine goR ?_ | refine clR 60 tt rfl rfl rfl (hr := tr) (k := ?_) | refine clR 63 tt rfl rfl rfl (hr := dx) (k := ?_) | refine clR 102 tt rfl rfl rfl (hr := hd) (k := ?_) | (refine gdRD rfl rfl (fun _ => ?_) (fun _ => ?_) <;> try (exfalso; omega)) | (refine gdRN rfl rfl (fun _ => ?_) (fun _ => ?_) <;> try (exfalso; omega)) | refine gdR rfl rfl (fun _ => ?_) (fun _ => ?_))
    | (show retPost _ _ _ _ _; first | refine finF true rfl rfl sc ?_ | refine finF false rfl rfl sc ?_ | refine finC false rfl rfl sc sc ?_ | refine finN rfl rfl sc ?_ | refine finL true rfl rfl sc rfl (LeR.cons rfl leL LeR.nil) ?_ | refine finE true rfl rfl sc ?_ | refine finE false rfl rfl sc ?_))
  rfl
theorem ref03_Sub (r t : R3) (hr : RatOk r 1000000) (ht : RatOk t 1000000) : Ret Tryz.prog 46 [rD r, rD t] (· = rD (rq (rv r - rv t))) := by
  have hn := ref03_Neg t ht
  have or := okQ_rv ht (by decide)
  have ha := ref03_Add r (rq (-rv t)) hr (ok_rq or.neg)
  rw [rv_rq, ← Rat.sub_eq_add_neg] at ha
  refine ret_of_awp tab Tryz.func46 rfl rfl (Nat.le_of_ble_eq_true rfl) (fun w0 F0 => ?_)
  repeat' (first
    | (show awpL _ _ _ _ _; first | refine goL ?_ | refine cl 84 tt rfl rfl rfl (hr := hn) (k := ?_) | refine cl 45 tt rfl rfl rfl (hr := ha) (k := ?_) | (refine gdLD rfl rfl (fun _ => ?_) (fun _ => ?_) <;> try (exfalso; omega)) | (refine gdLN rfl rfl (fun _ => ?_) (fun _ => ?_) <;> try (exfalso; omega)) | refine gdL rfl rfl (fun _ => ?_) (fun _ => ?_))
    | (show awp _ _ _ _; first | refine goA ?_ | refine awp_reg 1 3 mixed (by kernel_rfl) (by kernel_rfl) ?_ | (refine awp_condD rfl (fun _ => ?_) (fun _ => ?_) <;> try (exfalso; omega)) | (refine awp_condN rfl (fun _ => ?_) (fun _ => ?_) <;> try (exfalso; omega)) | refine awp_cond rfl (fun _ => ?_) (fun _ => ?_))
    | (show andThen _ _ _ _; first | refine goN ?_)
    | (show inBlock _ _ _ _; first | refine goB ?_)
    | (show awpR _ _ _ _ _ _; first | refine goR ?_ | refine clR 84 tt rfl rfl rfl (hr := hn) (k := ?_) | refine clR 45 tt rfl rfl rfl (hr := ha) (k := ?_) | (refine gdRD rfl rfl (fun _ => ?_) (fun _ => ?_) <;> try (exfalso; omega)) | (refine gdRN rfl rfl (fun _ => ?_) (fun _ => ?_) <;> try (exfalso; omega)) | refine gdR rfl rfl (fun _ => ?_) (fun _ => ?_))
    | (show retPost _ _ _ _ _; first | refine finF true rfl rfl sc ?_ | refine finF false rfl rfl sc ?_ | refine finC false rfl rfl sc sc ?_ | refine finN rfl rfl sc ?_ | refine finL true rfl rfl sc rfl (LeR.cons rfl leL LeR.nil) ?_ | refine finE true rfl rfl sc ?_ | refine finE false rfl rfl sc ?_))
  rfl
theorem ref03_Compare (r t : R3) (hr : RatOk r 100000) (ht : RatOk t 100000) : Ret Tryz.prog 25 [rD r, rD t] (· = .int .i64 (cmpQ (rv r) (rv t))) := by
  have hs := ref03_Sub r t (hr.up (by decide)) (ht.up (by decide))
  have or := okQ_rv hr (by decide)
  have ot := okQ_rv ht (by decide)
  have hg := ref03_SignQ (rv r - rv t) ((or.sub ot).mono (by decide))
  rw [sign_sub] at hg
  refine ret_of_awp tab Tryz.func25 rfl rfl (Nat.le_of_ble_eq_true rfl) (fun w0 F0 => ?_)
  repeat' (first
    | (show awpL _ _ _ _ _; first | refine goL ?_ | refine cl 46 tt rfl rfl rfl (hr := hs) (k := ?_) | refine cl 17 tt rfl rfl rfl (hr := hg) (k := ?_) | (refine gdLD rfl rfl (fun _ => ?_) (fun _ => ?_) <;> try (exfalso; omega)) | (refine gdLN rfl rfl (fun _ => ?_) (fun _ => ?_) <;> try (exfalso; omega)) | refine gdL rfl rfl (fun _ => ?_) (fun _ => ?_))
    | (show awp _ _ _ _; first | refine goA ?_ | (refine awp_condD rfl (fun _ => ?_) (fun _ => ?_) <;> try (exfalso; omega)) | (refine awp_condN rfl (fun _ => ?_) (fun _ => ?_) <;> try (exfalso; omega)) | refine awp_cond rfl (fun _ => ?_) (fun _ => ?_))
    | (show andThen _ _ _ _; first | refine goN ?_)
    | (show inBlock _ _ _ _; first | refine goB ?_)
    | (show awpR _ _ _ _ _ _; first | refine goR ?_ | refine clR 46 tt rfl rfl rfl (hr := hs) (k := ?_) | refine clR 17 tt rfl rfl rfl (hr := hg) (k := ?_) | (refine gdRD rfl rfl (fun _ => ?_) (fun _ => ?_) <;> try (exfalso; omega)) | (refine gdRN rfl rfl (fun _ => ?_) (fun _ => ?_) <;> try (exfalso; omega)) | refine gdR rfl rfl (fun _ => ?_) (fun _ => ?_))
    | (show retPost _ _ _ _ _; first | refine finF true rfl rfl sc ?_ | refine finF false rfl rfl sc ?_ | refine finC false rfl rfl sc sc ?_ | refine finN rfl rfl sc ?_ | refine finL true rfl rfl sc rfl (LeR.cons rfl leL LeR.nil) ?_ | refine finE true rfl rfl sc ?_ | refine finE false rfl rfl sc ?_))
  rfl
theorem ref03_Less (r t : R3) (hr : RatOk r 100000) (ht : RatOk t 100000) : Ret Tryz.prog 27 [rD r, rD t] (· = .bool (decide (rv r < rv t))) := by
  have hs := ref03_Compare r t hr ht
  have hc := cmpQ_neg (rv r) (rv t)
  obtain ⟨c, hcc⟩ : ∃ c, cmpQ (rv r) (rv t) = c := ⟨_, rfl⟩
  rw [hcc] at hs hc
  rw [show decide (rv r < rv t) = decide (c < 0) from decide_eq_decide.2 hc.symm]
  refine ret_of_awp tab Tryz.func27 rfl rfl (Nat.le_of_ble_eq_true rfl) (fun w0 F0 => ?_)
  repeat' (first
    | (show awpL _ _ _ _ _; first | refine goL ?_ | refine cl 25 tt rfl rfl rfl (hr := hs) (k := ?_) | (refine gdLD rfl rfl (fun _ => ?_) (fun _ => ?_) <;> try (exfalso; omega)) | (refine gdLN rfl rfl (fun _ => ?_) (fun _ => ?_) <;> try (exfalso; omega)) | refine gdL rfl rfl (fun _ => ?_) (fun _ => ?_))
    | (show awp _ _ _ _; first | refine goA ?_ | (refine awp_condD rfl (fun _ => ?_) (fun _ => ?_) <;> try (exfalso; omega)) | (refine awp_condN rfl (fun _ => ?_) (fun _ => ?_) <;> try (exfalso; omega)) | refine awp_cond rfl (fun _ => ?_) (fun _ => ?_))
    | (show andThen _ _ _ _; first | refine goN ?_)
    | (show inBlock _ _ _ _; first | refine goB ?_)
    | (show awpR _ _ _ _ _ _; first | refine goR ?_ | refine clR 25 tt rfl rfl rfl (hr := hs) (k := ?_) | (refine gdRD rfl rfl (fun _ => ?_) (fun _ => ?_) <;> try (exfalso; omega)) | (refine gdRN rfl rfl (fun _ => ?_) (fun _ => ?_) <;> try (exfalso; omega)) | refine gdR rfl rfl (fun _ => ?_) (fun _ => ?_))
    | (show retPost _ _ _ _ _; first | refine finF true rfl rfl sc ?_ | refine finF false rfl rfl sc ?_ | refine finC false rfl rfl sc sc ?_ | refine finN rfl rfl sc ?_ | refine finL true rfl rfl sc rfl (LeR.cons rfl leL LeR.nil) ?_ | refine finE true rfl rfl sc ?_ | refine finE false rfl rfl sc ?_))
  rfl
theorem ref03_Min (r t : R3) (hr : RatOk r 100000) (ht : RatOk t 100000) : Ret Tryz.prog 80 [rD r, rD t] (· = rD (rq (if rv t < rv r then rv t else rv r))) := by
  have hl := ref03_Less t r ht hr
  have h1 := ref03_Take r (hr.up (by decide))
  have h2 := ref03_Take t (ht.up (by decide))
  by_cases h : rv t < rv r
  · rw [decide_eq_true h] at hl
    rw [if_pos h]
    refine ret_of_awp tab Tryz.func80 rfl rfl (Nat.le_of_ble_eq_true rfl) (fun w0 F0 => ?_)
    repeat' (first
      | (show awpL _ _ _ _ _; first | refine goL ?_ | refine cl 27 tt rfl rfl rfl (hr := hl) (k := ?_) | refine cl 60 tt rfl rfl rfl (hr := h2) (k := ?_) | (refine gdLD rfl rfl (fun _ => ?_) (fun _ => ?_) <;> try (exfalso; omega)) | (refine gdLN rfl rfl (fun _ => ?_) (fun _ => ?_) <;> try (exfalso; omega)) | refine gdL rfl rfl (fun _ => ?_) (fun _ => ?_))
      | (show awp _ _ _ _; first | refine goA ?_ | (refine awp_condD rfl (fun _ => ?_) (fun _ => ?_) <;> try (exfalso; omega)) | (refine awp_condN rfl (fun _ => ?_) (fun _ => ?_) <;> try (exfalso; omega)) | refine awp_cond rfl (fun _ => ?_) (fun _ => ?_))
      | (show andThen _ _ _ _; first | refine goN ?_)
      | (show inBlock _ _ _ _; first | refine goB ?_)
      | (show awpR _ _ _ _ _ _; first | refine goR ?_ | refine clR 27 tt rfl rfl rfl (hr := hl) (k := ?_) | refine clR 60 tt rfl rfl rfl (hr := h2) (k := ?_) | (refine gdRD rfl rfl (fun _ => ?_) (fun _ => ?_) <;> try (exfalso; omega)) | (refine gdRN rfl rfl (fun _ => ?_) (fun _ => ?_) <;> try (exfalso; omega)) | refine gdR rfl rfl (fun _ => ?_) (fun _ => ?_))
      | (show retPost _ _ _ _ _; first | refine finF true rfl rfl sc ?_ | refine finF false rfl rfl sc ?_ | refine finC false rfl rfl sc sc ?_ | refine finN rfl rfl sc ?_ | refine finL true rfl rfl sc rfl (LeR.cons rfl leL LeR.nil) ?_ | refine finE true rfl rfl sc ?_ | refine finE false rfl rfl sc ?_))
    rfl
  · rw [decide_eq_false h] at hl
    rw [if_neg h]
    refine ret_of_awp tab Tryz.func80 rfl rfl (Nat.le_of_ble_eq_true rfl) (fun w0 F0 => ?_)
    repeat' (first
      | (show awpL _ _ _ _ _; first | refine goL ?_ | refine cl 27 tt rfl rfl rfl (hr := hl) (k := ?_) | refine cl 60 tt rfl rfl rfl (hr := h1) (k := ?_) | (refine gdLD rfl rfl (fun _ => ?_) (fun _ => ?_) <;> try (exfalso; omega)) | (refine gdLN rfl rfl (fun _ => ?_) (fun _ => ?_) <;> try (exfalso; omega)) | refine gdL rfl rfl (fun _ => ?_) (fun _ => ?_))
      | (show awp _ _ _ _; first | refine goA ?_ | (refine awp_condD rfl (fun _ => ?_) (fun _ => ?_) <;> try (exfalso; omega)) | (refine awp_condN rfl (fun _ => ?_) (fun _ => ?_) <;> try (exfalso; omega)) | refine awp_cond rfl (fun _ => ?_) (fun _ => ?_))
      | (show andThen _ _ _ _; first | refine goN ?_)
      | (show inBlock _ _ _ _; first | refine goB ?_)
      | (show awpR _ _ _ _ _ _; first | refine goR ?_ | refine clR 27 tt rfl rfl rfl (hr := hl) (k := ?_) | refine clR 60 tt rfl rfl rfl (hr := h1) (k := ?_) | (refine gdRD rfl rfl (fun _ => ?_) (fun _ => ?_) <;> try (exfalso; omega)) | (refine gdRN rfl rfl (fun _ => ?_) (fun _ => ?_) <;> try (exfalso; omega)) | refine gdR rfl rfl (fun _ => ?_) (fun _ => ?_))
      | (show retPost _ _ _ _ _; first | refine finF true rfl rfl sc ?_ | refine finF false rfl rfl sc ?_ | refine finC false rfl rfl sc sc ?_ | refine finN rfl rfl sc ?_ | refine finL true rfl rfl sc rfl (LeR.cons rfl leL LeR.nil) ?_ | refine finE true rfl rfl sc ?_ | refine finE false rfl rfl sc ?_))
    rfl
theorem ref03_Max (r t : R3) (hr : RatOk r 100000) (ht : RatOk t 100000) : Ret Tryz.prog 79 [rD r, rD t] (· = rD (rq (if rv r < rv t then rv t else rv r))) := by
  have hl := ref03_Less r t hr ht
  have h1 := ref03_Take r (hr.up (by decide))
  have h2 := ref03_Take t (ht.up (by decide))
  by_cases h : rv r < rv t
  · rw [decide_eq_true h] at hl
    rw [if_pos h]
    refine ret_of_awp tab Tryz.func79 rfl rfl (Nat.le_of_ble_eq_true rfl) (fun w0 F0 => ?_)
    repeat' (first
      | (show awpL _ _ _ _ _; first | refine goL ?_ | refine cl 27 tt rfl rfl rfl (hr := hl) (k := ?_) | refine cl 60 tt rfl rfl rfl (hr := h2) (k := ?_) | (refine gdLD rfl rfl (fun _ => ?_) (fun _ => ?_) <;> try (exfalso; omega)) | (refine gdLN rfl rfl (fun _ => ?_) (fun _ => ?_) <;> try (exfalso; omega)) | refine gdL rfl rfl (fun _ => ?_) (fun _ => ?_))
      | (show awp _ _ _ _; first | refine goA ?_ | (refine awp_condD rfl (fun _ => ?_) (fun _ => ?_) <;> try (exfalso; omega)) | (refine awp_condN rfl (fun _ => ?_) (fun _ => ?_) <;> try (exfalso; omega)) | refine awp_cond rfl (fun _ => ?_) (fun _ => ?_))
      | (show andThen _ _ _ _; first | refine goN ?_)
      | (show inBlock _ _ _ _; first | refine goB ?_)
      | (show awpR _ _ _ _ _ _; first | refine goR ?_ | refine clR 27 tt rfl rfl rfl (hr := hl) (k := ?_) | refine clR 60 tt rfl rfl rfl (hr := h2) (k := ?_) | (refine gdRD rfl rfl (fun _ => ?_) (fun _ => ?_) <;> try (exfalso; omega)) | (refine gdRN rfl rfl (fun _ => ?_) (fun _ => ?_) <;> try (exfalso; omega)) | refine gdR rfl rfl (fun _ => ?_) (fun _ => ?_))
      | (show retPost _ _ _ _ _; first | refine finF true rfl rfl sc ?_ | refine finF false rfl rfl sc ?_ | refine finC false rfl rfl sc sc ?_ | refine finN rfl rfl sc ?_ | refine finL true rfl rfl sc rfl (LeR.cons rfl leL LeR.nil) ?_ | refine finE true rfl rfl sc ?_ | refine finE false rfl rfl sc ?_))
    rfl
  · rw [decide_eq_false h] at hl
    rw [if_neg h]
    refine ret_of_awp tab Tryz.func79 rfl rfl (Nat.le_of_ble_eq_true rfl) (fun w0 F0 => ?_)
    repeat' (first
      | (show awpL _ _ _ _ _; first | refine goL ?_ | refine cl 27 tt rfl rfl rfl (hr := hl) (k := ?_) | refine cl 60 tt rfl rfl rfl (hr := h1) (k := ?_) | (refine gdLD rfl rfl (fun _ => ?_) (fun _ => ?_) <;> try (exfalso; omega)) | (refine gdLN rfl rfl (fun _ => ?_) (fun _ => ?_) <;> try (exfalso; omega)) | refine gdL rfl rfl (fun _ => ?_) (fun _ => ?_))
      | (show awp _ _ _ _; first | refine goA ?_ | (refine awp_condD rfl (fun _ => ?_) (fun _ => ?_) <;> try (exfalso; omega)) | (refine awp_condN rfl (fun _ => ?_) (fun _ => ?_) <;> try (exfalso; omega)) | refine awp_cond rfl (fun _ => ?_) (fun _ => ?_))
      | (show andThen _ _ _ _; first | refine goN ?_)
      | (show inBlock _ _ _ _; first | refine goB ?_)
      | (show awpR _ _ _ _ _ _; first | refine goR ?_ | refine clR 27 tt rfl rfl rfl (hr := hl) (k := ?_) | refine clR 60 tt rfl rfl rfl (hr := h1) (k := ?_) | (refine gdRD rfl rfl (fun _ => ?_) (fun _ => ?_) <;> try (exfalso; omega)) | (refine gdRN rfl rfl (fun _ => ?_) (fun _ => ?_) <;> try (exfalso; omega)) | refine gdR rfl rfl (fun _ => ?_) (fun _ => ?_))
      | (show retPost _ _ _ _ _; first | refine finF true rfl rfl sc ?_ | refine finF false rfl rfl sc ?_ | refine finC false rfl rfl sc sc ?_ | refine finN rfl rfl sc ?_ | refine finL true rfl rfl sc rfl (LeR.cons rfl leL LeR.nil) ?_ | refine finE true rfl rfl sc ?_ | refine finE false rfl rfl sc ?_))
    rfl
theorem ref03_Fraction (a b : Int) (ha : -9223372036854775808 ≤ a) (ha2 : a < 9223372036854775808) (hb : -9223372036854775808 ≤ b) (hb2 : b < 9223372036854775808) (h0 : b ≠ 0) : Ret Tryz.prog 92 [.int .i64 a, .int .i64 b] (· = rD (rq (Rat.divInt a b))) := by
  have h1 := ref02_FromInt a ha ha2
  have h2 := ref02_FromInt b hb hb2
  have l1 := u64_len (v := a.natAbs) (by omega)
  have l2 := u64_len (v := b.natAbs) (by omega)
  have o := ref03_over a b h0 (by omega) (by omega)
  refine ret_of_awp tab Tryz.func92 rfl rfl (Nat.le_of_ble_eq_true rfl) (fun w0 F0 => ?_)
  repeat' (first
    | (show awpL _ _ _ _ _; first | refine goL ?_ | refine cl 78 tt rfl rfl rfl (hr := h1) (k := ?_) | refine cl 78 tt rfl rfl rfl (hr := h2) (k := ?_) | refine cl 61 tt rfl rfl rfl (hr := o) (k := ?_) | (refine gdLD rfl rfl (fun _ => ?_) (fun _ => ?_) <;> try (exfalso; omega)) | (refine gdLN rfl rfl (fun _ => ?_) (fun _ => ?_) <;> try (exfalso; omega)) | refine gdL rfl rfl (fun _ => ?_) (fun _ => ?_))
    | (show awp _ _ _ _; first | refine goA ?_ | (refine awp_condD rfl (fun _ => ?_) (fun _ => ?_) <;> try (exfalso; omega)) | (refine awp_condN rfl (fun _ => ?_) (fun _ => ?_) <;> try (exfalso; omega)) | refine awp_cond rfl (fun _ => ?_) (fun _ => ?_))
    | (show andThen _ _ _ _; first | refine goN ?_)
    | (show inBlock _ _ _ _; first | refine goB ?_)
    | (show awpR _ _ _ _ _ _; first | refine goR ?_ | refine clR 78 tt rfl rfl rfl (hr := h1) (k := ?_) | refine clR 78 tt rfl rfl rfl (hr := h2) (k := ?_) | refine clR 61 tt rfl rfl rfl (hr := o) (k := ?_) | (refine gdRD rfl rfl (fun _ => ?_) (fun _ => ?_) <;> try (exfalso; omega)) | (refine gdRN rfl rfl (fun _ => ?_) (fun _ => ?_) <;> try (exfalso; omega)) | refine gdR rfl rfl (fun _ => ?_) (fun _ => ?_))
    | (show retPost _ _ _ _ _; first | refine finF true rfl rfl sc ?_ | refine finF false rfl rfl sc ?_ | refine finC false rfl rfl sc sc ?_ | refine finN rfl rfl sc ?_ | refine finL true rfl rfl sc rfl (LeR.cons rfl leL LeR.nil) ?_ | refine finE true rfl rfl sc ?_ | refine finE false rfl rfl sc ?_))
  rfl
theorem ref01_compareN (m n : Nat) (hm : (limbs m).length < 100000000000) (hn : (limbs n).length < 100000000000) : Ret Tryz.prog 122 [u32s (limbs m), u32s (limbs n)] (· = .int .i64 (cmpN m n)) := by
  have := ref01_compare m n (by omega) (by omega)
  exact this
theorem ref01_RootN (m : Nat) (hm : (limbs m).length < 100000) : Ret Tryz.prog 82 [u32s (limbs m)] (· = u32s (limbs (rt m))) := by
  have ht := ref01_TakeN m (by omega)
  have l1 := ln_one
  simp only [ln] at l1
  have lm1 := ln_add m 1
  simp only [ln] at lm1
  have ha := ref01_AddN m 1 (by omega) (by omega)
  rw [limbs_one] at ha
  have h2 : limbs 2 = [2] := limbs_small (by decide) (by decide)
  refine ret_of_awp tab Tryz.func82 rfl rfl (Nat.le_of_ble_eq_true rfl) (fun w0 F0 => ?_)
  repeat' (first
    | (show awpL _ _ _ _ _; first | refine goL ?_ | refine cl 99 tt rfl rfl rfl (hr := ht) (k := ?_) | refine cl 118 tt rfl rfl rfl (hr := ha) (k := ?_) | (refine gdLD rfl rfl (fun _ => ?_) (fun _ => ?_) <;> try (exfalso; omega)) | (refine gdLN rfl rfl (fun _ => ?_) (fun _ => ?_) <;> try (exfalso; omega)) | refine gdL rfl rfl (fun _ => ?_) (fun _ => ?_))
    | (show awp _ _ _ _; first | refine goA ?_ | (refine awp_condD rfl (fun _ => ?_) (fun _ => ?_) <;> try (exfalso; omega)) | (refine awp_condN rfl (fun _ => ?_) (fun _ => ?_) <;> try (exfalso; omega)) | refine awp_cond rfl (fun _ => ?_) (fun _ => ?_))
    | (show andThen _ _ _ _; first | refine goN ?_)
    | (show inBlock _ _ _ _; first | refine goB ?_)
    | (show awpR _ _ _ _ _ _; first | refine goR ?_ | refine clR 99 tt rfl rfl rfl (hr := ht) (k := ?_) | refine clR 118 tt rfl rfl rfl (hr := ha) (k := ?_) | (refine gdRD rfl rfl (fun _ => ?_) (fun _ => ?_) <;> try (exfalso; omega)) | (refine gdRN rfl rfl (fun _ => ?_) (fun _ => ?_) <;> try (exfalso; omega)) | refine gdR rfl rfl (fun _ => ?_) (fun _ => ?_))
    | (show retPost _ _ _ _ _; first | refine finF true rfl rfl sc ?_ | refine finF false rfl rfl sc ?_ | refine finC false rfl rfl sc sc ?_ | refine finN rfl rfl sc ?_ | refine finL true rfl rfl sc rfl (LeR.cons rfl leL LeR.nil) ?_ | refine finE true rfl rfl sc ?_ | refine finE false rfl rfl sc ?_))
  refine awp_nils 3 1 (eN .u32) 0 rfl ?_
  refine awp_loop2 (fun (lo hi : Nat) => ([(0, .d (u32s (limbs m))), (3, .d (u32s (limbs lo))), (4, .d (u32s (limbs hi)))], [])) (fun lo hi => lo * lo ≤ m ∧ m < hi * hi ∧ lo < hi ∧ hi ≤ m + 1) (fun lo hi => hi - lo) 0 (m + 1) ⟨by omega, by rw [Nat.mul_add, Nat.add_mul]; have := Nat.zero_le (m * m); omega, by omega, by omega⟩ ⟨rfl, by rw [limbs_zero]; rfl, rfl, rfl⟩ trivial (fun lo hi hinv => ?_)
  obtain ⟨i1, i2, i3, i4⟩ := hinv
  have llo : ln lo ≤ ln (m + 1) := ln_mono (by omega)
  have lhi : ln hi ≤ ln (m + 1) := ln_mono i4
  have lmid : ln ((lo + hi) / 2) ≤ ln (m + 1) := ln_mono (by omega)
  have lsum := ln_add lo hi
  have lsq := ln_mul ((lo + hi) / 2) ((lo + hi) / 2)
  have lm := ln_mono (show m ≤ m + 1 by omega)
  simp only [ln] at llo lhi lmid lsum lsq lm
  have a1 := ref01_AddN lo hi (by omega) (by omega)
  have d1 := ref01_DivN (lo + hi) 2 (by omega) (by rw [h2]; decide) (by decide)
  rw [h2] at d1
  have c1 := ref01_compareN ((lo + hi) / 2) lo (by omega) (by omega)
  have m1 := ref01_MulN ((lo + hi) / 2) ((lo + hi) / 2) (by omega) (by omega)
  have c2 := ref01_compareN ((lo + hi) / 2 * ((lo + hi) / 2)) m (by omega) (by omega)
  have z1 := cmpN_zero ((lo + hi) / 2) lo
  have z2 := cmpN_le ((lo + hi) / 2 * ((lo + hi) / 2)) m
  have hmid : lo ≤ (lo + hi) / 2 ∧ (lo + hi) / 2 < hi := by omega
  have hend : (lo + hi) / 2 = lo → hi = lo + 1 := by omega
  generalize (lo + hi) / 2 = mid at *
  generalize cmpN mid lo = x1 at *
  generalize cmpN (mid * mid) m = x2 at *
  clear lsq lsum
  by_cases e1 : x1 = 0
  · have hz := z1.1 e1
    have hr : rt m = lo := rt_eq i1 (by rw [hend hz] at i2; exact i2)
    rw [hr]
    clear i1 i2 z2
    repeat' (first
      | (show awpL _ _ _ _ _; first | refine goL ?_ | refine cl 118 tt rfl rfl rfl (hr := a1) (k := ?_) | refine cl 121 tt rfl rfl rfl (hr := d1) (k := ?_) | refine cl 122 tt rfl rfl rfl (hr := c1) (k := ?_) | (refine gdLD rfl rfl (fun _ => ?_) (fun _ => ?_) <;> try (exfalso; omega)) | (refine gdLN rfl rfl (fun _ => ?_) (fun _ => ?_) <;> try (exfalso; omega)) | refine gdL rfl rfl (fun _ => ?_) (fun _ => ?_))
      | (show awp _ _ _ _; first | refine goA ?_ | (refine awp_condD rfl (fun _ => ?_) (fun _ => ?_) <;> try (exfalso; omega)) | (refine awp_condN rfl (fun _ => ?_) (fun _ => ?_) <;> try (exfalso; omega)) | refine awp_cond rfl (fun _ => ?_) (fun _ => ?_))
      | (show andThen _ _ _ _; first | refine goN ?_)
      | (show inBlock _ _ _ _; first | refine goB ?_)
      | (show awpR _ _ _ _ _ _; first | refine goR ?_ | refine clR 118 tt rfl rfl rfl (hr := a1) (k := ?_) | refine clR 121 tt rfl rfl rfl (hr := d1) (k := ?_) | refine clR 122 tt rfl rfl rfl (hr := c1) (k := ?_) | (refine gdRD rfl rfl (fun _ => ?_) (fun _ => ?_) <;> try (exfalso; omega)) | (refine gdRN rfl rfl (fun _ => ?_) (fun _ => ?_) <;> try (exfalso; omega)) | refine gdR rfl rfl (fun _ => ?_) (fun _ => ?_))
      | (show retPost _ _ _ _ _; first | refine finF true rfl rfl sc ?_ | refine finF false rfl rfl sc ?_ | refine finC false rfl rfl sc sc ?_ | refine finN rfl rfl sc ?_ | refine finL true rfl rfl sc rfl (LeR.cons rfl leL LeR.nil) ?_ | refine finE true rfl rfl sc ?_ | refine finE false rfl rfl sc ?_))
    rfl
  · have hne := mt z1.2 e1
    by_cases e2 : x2 ≤ 0
    · have hk := Hid.mk (And.intro (z2.1 e2) i2)
      clear i1 i2 z1 z2
      repeat' (first
        | (show awpL _ _ _ _ _; first | refine goL ?_ | refine cl 118 tt rfl rfl rfl (hr := a1) (k := ?_) | refine cl 121 tt rfl rfl rfl (hr := d1) (k := ?_) | refine cl 122 tt rfl rfl rfl (hr := c1) (k := ?_) | refine cl 76 tt rfl rfl rfl (hr := m1) (k := ?_) | refine cl 122 tt rfl rfl rfl (hr := c2) (k := ?_) | (refine gdLD rfl rfl (fun _ => ?_) (fun _ => ?_) <;> try (exfalso; omega)) | (refine gdLN rfl rfl (fun _ => ?_) (fun _ => ?_) <;> try (exfalso; omega)) | refine gdL rfl rfl (fun _ => ?_) (fun _ => ?_))
        | (show awp _ _ _ _; first | refine goA ?_ | (refine awp_condD rfl (fun _ => ?_) (fun _ => ?_) <;> try (exfalso; omega)) | (refine awp_condN rfl (fun _ => ?_) (fun _ => ?_) <;> try (exfalso; omega)) | refine awp_cond rfl (fun _ => ?_) (fun _ => ?_))
        | (show andThen _ _ _ _; first | refine goN ?_)
        | (show inBlock _ _ _ _; first | refine goB ?_)
        | (show awpR _ _ _ _ _ _; first | refine goR ?_ | refine clR 118 tt rfl rfl rfl (hr := a1) (k := ?_) | refine clR 121 tt rfl rfl rfl (hr := d1) (k := ?_) | refine clR 122 tt rfl rfl rfl (hr := c1) (k := ?_) | refine clR 76 tt rfl rfl rfl (hr := m1) (k := ?_) | refine clR 122 tt rfl rfl rfl (hr := c2) (k := ?_) | (refine gdRD rfl rfl (fun _ => ?_) (fun _ => ?_) <;> try (exfalso; omega)) | (refine gdRN rfl rfl (fun _ => ?_) (fun _ => ?_) <;> try (exfalso; omega)) | refine gdR rfl rfl (fun _ => ?_) (fun _ => ?_))
        | (show retPost _ _ _ _ _; first | refine finF true rfl rfl sc ?_ | refine finF false rfl rfl sc ?_ | refine finC false rfl rfl sc sc ?_ | refine finN rfl rfl sc ?_ | refine finL true rfl rfl sc rfl (LeR.cons rfl leL LeR.nil) ?_ | refine finE true rfl rfl sc ?_ | refine finE false rfl rfl sc ?_))
      exact ⟨mid, hi, ⟨hk.out.1, hk.out.2, by omega, by omega⟩, by omega, ⟨rfl, rfl, rfl, rfl⟩, trivial⟩
    · have hk := Hid.mk (And.intro i1 (Nat.lt_of_not_le (mt z2.2 e2)))
      clear i1 i2 z1 z2
      repeat' (first
        | (show awpL _ _ _ _ _; first | refine goL ?_ | refine cl 118 tt rfl rfl rfl (hr := a1) (k := ?_) | refine cl 121 tt rfl rfl rfl (hr := d1) (k := ?_) | refine cl 122 tt rfl rfl rfl (hr := c1) (k := ?_) | refine cl 76 tt rfl rfl rfl (hr := m1) (k := ?_) | refine cl 122 tt rfl rfl rfl (hr := c2) (k := ?_) | (refine gdLD rfl rfl (fun _ => ?_) (fun _ => ?_) <;> try (exfalso; omega)) | (refine gdLN rfl rfl (fun _ => ?_) (fun _ => ?_) <;> try (exfalso; omega)) | refine gdL rfl rfl (fun _ => ?_) (fun _ => ?_))
        | (show awp _ _ _ _; first | refine goA ?_ | (refine awp_condD rfl (fun _ => ?_) (fun _ => ?_) <;> try (exfalso; omega)) | (refine awp_condN rfl (fun _ => ?_) (fun _ => ?_) <;> try (exfalso; omega)) | refine awp_cond rfl (fun _ => ?_) (fun _ => ?_))
        | (show andThen _ _ _ _; first | refine goN ?_)
        | (show inBlock _ _ _ _; first | refine goB ?_)
        | (show awpR _ _ _ _ _ _; first | refine goR ?_ | refine clR 118 tt rfl rfl rfl (hr := a1) (k := ?_) | refine clR 121 tt rfl rfl rfl (hr := d1) (k := ?_) | refine clR 122 tt rfl rfl rfl (hr := c1) (k := ?_) | refine clR 76 tt rfl rfl rfl (hr := m1) (k := ?_) | refine clR 122 tt rfl rfl rfl (hr := c2) (k := ?_) | (refine gdRD rfl rfl (fun _ => ?_) (fun _ => ?_) <;> try (exfalso; omega)) | (refine gdRN rfl rfl (fun _ => ?_) (fun _ => ?_) <;> try (exfalso; omega)) | refine gdR rfl rfl (fun _ => ?_) (fun _ => ?_))
        | (show retPost _ _ _ _ _; first | refine finF true rfl rfl sc ?_ | refine finF false rfl rfl sc ?_ | refine finC false rfl rfl sc sc ?_ | refine finN rfl rfl sc ?_ | refine finL true rfl rfl sc rfl (LeR.cons rfl leL LeR.nil) ?_ | refine finE true rfl rfl sc ?_ | refine finE false rfl rfl sc ?_))
      exact ⟨lo, mid, ⟨hk.out.1, hk.out.2, by omega, by omega⟩, by omega, ⟨rfl, rfl, rfl, rfl⟩, trivial⟩
end Go.Proofs.YtjjefhbceoeibaaGreat

/-
  Matrices of rational numbers: the elimination as the specification has it, where each pivot stands in its place. Conditions: as each says.
-/
set_option linter.unusedVariables false
set_option linter.unusedSimpArgs false
namespace Go.Vw
@[reducible] def qC (q : Rat) : List D := rC (rq q)
@[reducible] def qD (q : Rat) : D := rD (rq q)
@[reducible] def qsD (l : List Rat) : D := .sl 3 qC 0 l
@[reducible] def eQ (l : List Rat) : List D := [qsD l]
@[reducible] def qssD (l : List (List Rat)) : D := .sl 1 eQ [] l

def timesQ (l : List Rat) (c : Rat) : List Rat := l.map (· * c)
def plusQ (a b : List Rat) : List Rat := List.zipWith (· + ·) a b
def at2 (m : List (List Rat)) (i j : Nat) : Rat := (m.getD i []).getD j 0
def scaleQ (m : List (List Rat)) (j : Nat) : List (List Rat) := m.set j (timesQ (m.getD j []) (1 / at2 m j j))
def elimRow (m : List (List Rat)) (j i : Nat) : List Rat := if i = j then m.getD j [] else plusQ (m.getD i []) (timesQ (m.getD j []) (-(at2 m i j)))
def elimI (m : List (List Rat)) (j i : Nat) : List (List Rat) := (List.range i).map (elimRow m j) ++ m.drop i
def redQ (m : List (List Rat)) (j : Nat) : List (List Rat) := elimI (scaleQ m j) j m.length

theorem elimI_len {m : List (List Rat)} {j i : Nat} (h : i ≤ m.length) : (elimI m j i).length = m.length := by simp [elimI]; omega
theorem elimI_zero (m : List (List Rat)) (j : Nat) : elimI m j 0 = m := by simp [elimI]
theorem elimI_get_i {m : List (List Rat)} {j i : Nat} (h : i < m.length) : (elimI m j i).getD i [] = m.getD i [] := by
  simp [elimI, List.getD_eq_getElem?_getD, List.getElem?_append_right]
theorem elimI_get_j {m : List (List Rat)} {j i : Nat} (h : j < m.length) (hi : i ≤ m.length) : (elimI m j i).getD j [] = m.getD j [] := by
  by_cases e : j < i
  · simp [elimI, List.getD_eq_getElem?_getD, List.getElem?_append_left, e, elimRow]
  · rw [List.getD_eq_getElem?_getD, elimI, List.getElem?_append_right (by simp; omega)]
    simp [List.getD_eq_getElem?_getD, List.getElem?_drop]
    rw [show i + (j - i) = j by omega]
theorem elimI_set {m : List (List Rat)} {j i : Nat} (h : i < m.length) : (elimI m j i).set i (elimRow m j i) = elimI m j (i + 1) := by
  apply List.ext_getElem?
  intro k
  rw [List.getElem?_set]
  by_cases e : i = k
  · subst e
    rw [if_pos rfl, if_pos (by rw [elimI_len (by omega)]; omega)]
    rw [elimI, List.getElem?_append_left (by simp)]
    simp
  · rw [if_neg e]
    by_cases e2 : k < i
    · rw [elimI, elimI, List.getElem?_append_left (by simpa using e2), List.getElem?_append_left (by simp; omega)]
      simp [e2, show k < i + 1 by omega]
    · rw [elimI, elimI, List.getElem?_append_right (by simp; omega), List.getElem?_append_right (by simp; omega)]
      simp only [List.getElem?_drop, List.length_map, List.length_range]
      congr 1; omega
theorem elimI_keep {m : List (List Rat)} {j : Nat} (h : j < m.length) : elimI m j (j + 1) = elimI m j j := by
  rw [← elimI_set h]
  have e : elimRow m j j = m.getD j [] := by simp [elimRow]
  rw [e]
  apply List.ext_getElem?
  intro k
  rw [List.getElem?_set]
  by_cases e : j = k
  · subst e
    rw [if_pos rfl, if_pos (by rw [elimI_len (by omega)]; omega)]
    have h1 := elimI_get_i (j := j) h
    rw [List.getD_eq_getElem?_getD, List.getD_eq_getElem?_getD] at h1
    rw [List.getD_eq_getElem?_getD]
    have l1 : j < (elimI m j j).length := by rw [elimI_len (by omega)]; omega
    rw [List.getElem?_eq_getElem l1, List.getElem?_eq_getElem h] at h1
    rw [List.getElem?_eq_getElem l1, List.getElem?_eq_getElem h]
    simp at h1 ⊢
    exact h1.symm
  · rw [if_neg e]

/-- A number of two machine words at most. -/
def smallQ (q : Rat) : Prop := q.num.natAbs < 18446744073709551616 ∧ q.den < 18446744073709551616
theorem limbs_len2 {n : Nat} (h : n < 18446744073709551616) : (limbs n).length < 1000 := Nat.lt_of_le_of_lt (length_limbs_le (n := n) (k := 2) (by rw [B_val]; exact h)) (by decide)
theorem limbs_len4 {n : Nat} (h : n < 18446744073709551616 * 18446744073709551616) : (limbs n).length < 1000 := Nat.lt_of_le_of_lt (length_limbs_le (n := n) (k := 4) (by rw [B_val]; exact h)) (by decide)
theorem smallQ.ok {q : Rat} (h : smallQ q) : okQ 1000000 q := ⟨Nat.lt_trans (limbs_len2 h.1) (by decide), Nat.lt_trans (limbs_len2 h.2) (by decide)⟩
theorem smallQ.neg {q : Rat} (h : smallQ q) : smallQ (-q) := by unfold smallQ at *; rw [show (-q).num = -q.num from rfl, show (-q).den = q.den from rfl, Int.natAbs_neg]; exact h
theorem smallQ.one : smallQ 1 := by unfold smallQ; decide
theorem num_mul_le (x y : Rat) : (x * y).num.natAbs ≤ x.num.natAbs * y.num.natAbs ∧ (x * y).den ≤ x.den * y.den := by
  rw [Rat.num_mul, Rat.den_mul, ← Int.natAbs_mul]
  refine ⟨?_, Nat.div_le_self _ _⟩
  have hd : ((((x.num * y.num).natAbs.gcd (x.den * y.den) : Nat)) : Int) ∣ x.num * y.num := Int.ofNat_dvd_left.2 (Nat.gcd_dvd_left _ _)
  rw [Int.natAbs_ediv_of_dvd hd]
  exact Nat.div_le_self _ _
theorem smallQ.mul {x y : Rat} (hx : smallQ x) (hy : smallQ y) : okQ 1000000 (x * y) := by
  obtain ⟨h1, h2⟩ := num_mul_le x y
  exact ⟨Nat.lt_trans (limbs_len4 (Nat.lt_of_le_of_lt h1 (Nat.mul_lt_mul'' hx.1 hy.1))) (by decide), Nat.lt_trans (limbs_len4 (Nat.lt_of_le_of_lt h2 (Nat.mul_lt_mul'' hx.2 hy.2))) (by decide)⟩
theorem smallQ.inv {x : Rat} (hx : smallQ x) : smallQ (1 / x) := by
  unfold smallQ at *
  rw [Rat.div_def, Rat.one_mul, Rat.num_inv, Rat.den_inv]
  refine ⟨?_, ?_⟩
  · rw [Int.natAbs_mul, Int.natAbs_natCast]
    refine Nat.lt_of_le_of_lt (Nat.mul_le_mul_right _ (show x.num.sign.natAbs ≤ 1 from ?_)) (by omega)
    rw [Int.natAbs_sign]; split <;> omega
  · split <;> omega

def goodB (n : Nat) (m : List (List Rat)) : Bool := Nat.beq m.length n && m.all fun r => Nat.beq r.length n && r.all fun q => Nat.blt q.num.natAbs 18446744073709551616 && Nat.blt q.den 18446744073709551616
structure GoodM (n : Nat) (m : List (List Rat)) : Prop where
  len : m.length = n
  row : ∀ i, i < n → (m.getD i []).length = n
  small : ∀ i, i < n → ∀ q ∈ m.getD i [], smallQ q
theorem goodB_spec {n : Nat} {m : List (List Rat)} (h : goodB n m = true) : GoodM n m := by
  simp only [goodB, Bool.and_eq_true, List.all_eq_true, Nat.blt_eq] at h
  obtain ⟨h1, h2⟩ := h
  have h1 := Nat.eq_of_beq_eq_true h1
  have mem : ∀ i, i < n → m.getD i [] ∈ m := fun i hi => by
    rw [List.getD_eq_getElem?_getD, List.getElem?_eq_getElem (by omega)]; exact List.getElem_mem _
  exact ⟨h1, fun i hi => Nat.eq_of_beq_eq_true (h2 _ (mem i hi)).1, fun i hi q hq => (h2 _ (mem i hi)).2 q hq⟩
theorem GoodM.at2 {n : Nat} {m : List (List Rat)} (h : GoodM n m) {i j : Nat} (hi : i < n) (hj : j < n) : smallQ (at2 m i j) := by
  refine h.small i hi _ ?_
  unfold Vw.at2
  have hr := h.row i hi
  generalize m.getD i [] = r at *
  rw [List.getD_eq_getElem?_getD, List.getElem?_eq_getElem (by omega)]; exact List.getElem_mem _
/-- The run keeps to small numbers, and each pivot stands in its place. -/
def okRun (n : Nat) : Nat → List (List Rat) → Rat → Bool
  | 0, m, _ => goodB n m
  | k + 1, m, f => !(decide (at2 m (n - (k + 1)) (n - (k + 1)) = 0)) && Nat.blt f.num.natAbs 18446744073709551616 && Nat.blt f.den 18446744073709551616 && goodB n m && goodB n (scaleQ m (n - (k + 1))) && okRun n k (redQ m (n - (k + 1))) (f * at2 m (n - (k + 1)) (n - (k + 1)))
/-- The matrix and the factor before column j. -/
def mAt (m : List (List Rat)) : Nat → List (List Rat)
  | 0 => m
  | j + 1 => redQ (mAt m j) j
def facAt (m : List (List Rat)) : Nat → Rat
  | 0 => 1
  | j + 1 => facAt m j * at2 (mAt m j) j j
structure RunOk (n : Nat) (m : List (List Rat)) : Prop where
  good : ∀ j, j ≤ n → GoodM n (mAt m j)
  piv : ∀ j, j < n → at2 (mAt m j) j j ≠ 0
  fac : ∀ j, j < n → smallQ (facAt m j)
  scaled : ∀ j, j < n → GoodM n (scaleQ (mAt m j) j)
theorem okRun_spec {n : Nat} {m : List (List Rat)} (h : okRun n n m 1 = true) : RunOk n m := by
  have key : ∀ k, k ≤ n → okRun n k (mAt m (n - k)) (facAt m (n - k)) = true := by
    intro k hk
    have aux : ∀ d, d ≤ n → okRun n (n - d) (mAt m d) (facAt m d) = true := by
      intro d
      induction d with
      | zero => intro _; exact h
      | succ d ih =>
        intro hd
        have := ih (by omega)
        rw [show n - d = (n - (d + 1)) + 1 by omega, okRun] at this
        rw [show n - (n - (d + 1) + 1) = d by omega] at this
        simp only [Bool.and_eq_true] at this
        exact this.2
    have := aux (n - k) (by omega)
    rwa [show n - (n - k) = k by omega] at this
  have step : ∀ j, j < n → (at2 (mAt m j) j j ≠ 0 ∧ smallQ (facAt m j)) ∧ GoodM n (mAt m j) ∧ GoodM n (scaleQ (mAt m j) j) := by
    intro j hj
    have := key (n - j) (by omega)
    rw [show n - j = (n - j - 1) + 1 by omega, okRun] at this
    rw [show n - (n - j - 1 + 1) = j by omega] at this
    simp only [Bool.and_eq_true, Bool.not_eq_true', decide_eq_false_iff_not, Nat.blt_eq] at this
    obtain ⟨⟨⟨⟨⟨h1, h2⟩, h3⟩, h4⟩, h5⟩, _⟩ := this
    exact ⟨⟨h1, h2, h3⟩, goodB_spec h4, goodB_spec h5⟩
  refine ⟨fun j hj => ?_, fun j hj => (step j hj).1.1, fun j hj => (step j hj).1.2, fun j hj => (step j hj).2.2⟩
  rcases Nat.lt_or_ge j n with h | h
  · exact (step j h).2.1
  · have := key 0 (by omega)
    rw [show j = n by omega]
    rw [okRun, Nat.sub_zero] at this
    exact goodB_spec this
theorem scaleQ_len (m : List (List Rat)) (j : Nat) : (scaleQ m j).length = m.length := by simp [scaleQ]
end Go.Vw

/-
  Intervals of rational numbers: what the operations are, in plain terms. Conditions: as each says.
-/
set_option linter.unusedVariables false
set_option linter.unusedSimpArgs false
namespace Go.Vw
abbrev I2 := Rat × Rat
/-- The program's form of an interval. -/
@[reducible] def iD (a b : R3) : D := .agg [.bool a.1, u32s a.2.1, u32s a.2.2, .bool b.1, u32s b.2.1, u32s b.2.2]
@[reducible] def iQ (i : I2) : D := iD (rq i.1) (rq i.2)
def takeI (x y : Rat) : I2 := if y < x then (0, 0) else (x, y)
def okI (k : Nat) (i : I2) : Prop := okQ k i.1 ∧ okQ k i.2
theorem okQ_zero {k : Nat} (h : 1 < k) : okQ k 0 := ⟨by show (limbs 0).length < k; rw [limbs_zero]; simp; omega, by show (limbs 1).length < k; rw [limbs_one]; simpa using h⟩
theorem takeI_ok {k : Nat} {x y : Rat} (hx : okQ k x) (hy : okQ k y) (h : 1 < k) : okI k (takeI x y) := by
  unfold takeI; split
  · exact ⟨okQ_zero h, okQ_zero h⟩
  · exact ⟨hx, hy⟩
theorem takeI_le (x y : Rat) : (takeI x y).1 ≤ (takeI x y).2 := by
  unfold takeI; split
  · exact Rat.le_refl
  · rename_i h; exact Rat.not_lt.1 h
theorem takeI_of {x y : Rat} (h : x ≤ y) : takeI x y = (x, y) := by
  unfold takeI; rw [if_neg (Rat.not_lt.2 h)]
def containsI (i : I2) (v : Rat) : Bool := decide (i.1 ≤ v) && decide (v ≤ i.2)
def withinI (a b : I2) : Bool := decide (b.1 ≤ a.1) && decide (a.2 ≤ b.2)
def minQ (x y : Rat) : Rat := if y < x then y else x
def maxQ (x y : Rat) : Rat := if x < y then y else x
def hullL (x : Rat) (l : List Rat) : I2 := (l.foldl minQ x, l.foldl maxQ x)
def addI (a b : I2) : I2 := (a.1 + b.1, a.2 + b.2)
def subI (a b : I2) : I2 := (a.1 - b.2, a.2 - b.1)
def mulI (a b : I2) : I2 := hullL (a.1 * b.1) [a.1 * b.2, a.2 * b.1, a.2 * b.2]
def divI (a b : I2) : I2 := mulI a (1 / b.2, 1 / b.1)
def sqI (a : I2) : I2 := if containsI a 0 then (0, (hullL (a.1 * a.1) [a.2 * a.2]).2) else hullL (a.1 * a.1) [a.2 * a.2]
def hullI (a b : I2) : I2 := hullL a.1 [a.2, b.1, b.2]
def meetI (a b : I2) : Option I2 := if minQ a.2 b.2 < maxQ a.1 b.1 then none else some (maxQ a.1 b.1, minQ a.2 b.2)
theorem okQ_minQ {k : Nat} {x y : Rat} (hx : okQ k x) (hy : okQ k y) : okQ k (minQ x y) := by unfold minQ; split <;> assumption
theorem okQ_maxQ {k : Nat} {x y : Rat} (hx : okQ k x) (hy : okQ k y) : okQ k (maxQ x y) := by unfold maxQ; split <;> assumption
theorem hullL_ok {k : Nat} : ∀ (l : List Rat) (m n : Rat), okQ k m → okQ k n → (∀ q ∈ l, okQ k q) → okQ k (l.foldl minQ m) ∧ okQ k (l.foldl maxQ n)
  | [], m, n, hm, hn, _ => ⟨hm, hn⟩
  | x :: l, m, n, hm, hn, h => hullL_ok l (minQ m x) (maxQ n x) (okQ_minQ hm (h x (by simp))) (okQ_maxQ hn (h x (by simp))) fun q hq => h q (by simp [hq])
theorem foldl_take {α : Type} (f : α → Rat → α) (a : α) (l : List Rat) {i : Nat} (h : i < l.length) : (l.take (i + 1)).foldl f a = f ((l.take i).foldl f a) (l.getD i 0) := by
  rw [List.take_add_one, List.foldl_append]
  simp [List.getD_eq_getElem?_getD, h]
theorem take_ok {k : Nat} {l : List Rat} {x : Rat} (hx : okQ k x) (h : ∀ q ∈ l, okQ k q) (i : Nat) : okQ k ((l.take i).foldl minQ x) ∧ okQ k ((l.take i).foldl maxQ x) := hullL_ok _ x x hx hx fun q hq => h q (List.mem_of_mem_take hq)
theorem getD_ok {k : Nat} {l : List Rat} (h : ∀ q ∈ l, okQ k q) {i : Nat} (hi : i < l.length) : okQ k (l.getD i 0) := by
  have : l.getD i 0 = l[i] := by simp [List.getD_eq_getElem?_getD, hi]
  rw [this]; exact h _ (List.getElem_mem hi)
theorem minQ_le (x y : Rat) : minQ x y ≤ x ∧ minQ x y ≤ y := by unfold minQ; split <;> constructor <;> grind
theorem maxQ_le (x y : Rat) : x ≤ maxQ x y ∧ y ≤ maxQ x y := by unfold maxQ; split <;> constructor <;> grind
theorem hullL_le : ∀ (l : List Rat) (m n : Rat), m ≤ n → l.foldl minQ m ≤ l.foldl maxQ n
  | [], m, n, h => h
  | x :: l, m, n, h => hullL_le l (minQ m x) (maxQ n x) (by have := (minQ_le m x).1; have := (maxQ_le n x).1; grind)
theorem square_nonneg (x : Rat) : 0 ≤ x * x := by
  rcases Rat.le_total (a := 0) (b := x) with h | h
  · exact Rat.mul_nonneg h h
  · have := Rat.mul_nonneg (a := -x) (b := -x) (by grind) (by grind)
    grind
end Go.Vw

set_option linter.unusedVariables false
set_option linter.unusedSimpArgs false
namespace Go.Proofs.YtjjefhbceoeibaaGreat
open Go.Vw
attribute [local irreducible] awp awpL awpR

theorem rational_CompareQ (x y : Rat) (hx : okQ 1000000 x) (hy : okQ 1000000 y) : Ret Tryz.prog 71 [qD x, qD y] (· = .int .i64 (cmpQ x y)) := by
  have := rational_Compare (rq x) (rq y) (ok_rq hx) (ok_rq hy)
  rw [rv_rq, rv_rq] at this
  exact this
theorem rational_AddQ (x y : Rat) (hx : okQ 1000000 x) (hy : okQ 1000000 y) : Ret Tryz.prog 74 [qD x, qD y] (· = qD (x + y)) := by
  have := rational_Add (rq x) (rq y) (ok_rq hx) (ok_rq hy)
  rw [rv_rq, rv_rq] at this
  exact this
theorem rational_SubQ (x y : Rat) (hx : okQ 1000000 x) (hy : okQ 1000000 y) : Ret Tryz.prog 75 [qD x, qD y] (· = qD (x - y)) := by
  have := rational_Sub (rq x) (rq y) (ok_rq hx) (ok_rq hy)
  rw [rv_rq, rv_rq] at this
  exact this
theorem rational_MulQ (x y : Rat) (hx : okQ 1000000 x) (hy : okQ 1000000 y) : Ret Tryz.prog 59 [qD x, qD y] (· = qD (x * y)) := by
  have := rational_Mul (rq x) (rq y) (ok_rq hx) (ok_rq hy)
  rw [rv_rq, rv_rq] at this
  exact this
theorem rational_DivQ (x y : Rat) (hx : okQ 1000000 x) (hy : okQ 1000000 y) : Ret Tryz.prog 69 [qD x, qD y] (· = if y = 0 then .tup [rD r0, .int .i64 5] else .tup [qD (x / y), .int .i64 0]) := by
  have := rational_Div (rq x) (rq y) (ok_rq hx) (ok_rq hy)
  rw [rv_rq, rv_rq] at this
  exact this
theorem rational_FloorQ (x : Rat) (hx : okQ 1000000 x) : Ret Tryz.prog 68 [qD x] (· = zD x.floor) := by
  have := rational_Floor (rq x) (ok_rq hx)
  rw [rv_rq] at this
  exact this
theorem rational_SignQ (x : Rat) (hx : okQ 1000000 x) : Ret Tryz.prog 66 [qD x] (· = .int .i64 x.num.sign) := by
  have := rational_Sign (rq x) (ok_rq hx)
  rw [rv_rq] at this
  exact this
theorem ref03_SubQ (x y : Rat) (hx : okQ 1000000 x) (hy : okQ 1000000 y) : Ret Tryz.prog 46 [qD x, qD y] (· = qD (x - y)) := by
  have := ref03_Sub (rq x) (rq y) (ok_rq hx) (ok_rq hy)
  rw [rv_rq, rv_rq] at this
  exact this
theorem ref03_CompareQ (x y : Rat) (hx : okQ 100000 x) (hy : okQ 100000 y) : Ret Tryz.prog 25 [qD x, qD y] (· = .int .i64 (cmpQ x y)) := by
  have := ref03_Compare (rq x) (rq y) (ok_rq hx) (ok_rq hy)
  rw [rv_rq, rv_rq] at this
  exact this
theorem ref03_LessQ (x y : Rat) (hx : okQ 100000 x) (hy : okQ 100000 y) : Ret Tryz.prog 27 [qD x, qD y] (· = .bool (decide (x < y))) := by
  have := ref03_Less (rq x) (rq y) (ok_rq hx) (ok_rq hy)
  rw [rv_rq, rv_rq] at this
  exact this
theorem ref03_MinQ (x y : Rat) (hx : okQ 100000 x) (hy : okQ 100000 y) : Ret Tryz.prog 80 [qD x, qD y] (· = qD (minQ x y)) := by
  have := ref03_Min (rq x) (rq y) (ok_rq hx) (ok_rq hy)
  rw [rv_rq, rv_rq] at this
  exact this
theorem ref03_MaxQ (x y : Rat) (hx : okQ 100000 x) (hy : okQ 100000 y) : Ret Tryz.prog 79 [qD x, qD y] (· = qD (maxQ x y)) := by
  have := ref03_Max (rq x) (rq y) (ok_rq hx) (ok_rq hy)
  rw [rv_rq, rv_rq] at this
  exact this
theorem ref03_FloorQ (x : Rat) (hx : okQ 1000000 x) : Ret Tryz.prog 81 [qD x] (· = zD x.floor) := by
  have := ref03_Floor (rq x) (ok_rq hx)
  rw [rv_rq] at this
  exact this
theorem ref04_Take (a b : R3) (ha : RatOk a 20000) (hb : RatOk b 20000) : Ret Tryz.prog 65 [iD a b] (· = iQ (takeI (rv a) (rv b))) := by
  have hl := ref03_Less b a (hb.up (by decide)) (ha.up (by decide))
  have h1 := ref03_Take a (ha.up (by decide))
  have h2 := ref03_Take b (hb.up (by decide))
  unfold takeI
  by_cases h : rv b < rv a
  · rw [decide_eq_true h] at hl
    rw [if_pos h]
    unfold iQ
    rw [rq_zero]
    refine ret_of_awp tab Tryz.func65 rfl rfl (Nat.le_of_ble_eq_true rfl) (fun w0 F0 => ?_)
    repeat' (first
      | (show awpL _ _ _ _ _; first | refine goL ?_ | refine cl 27 tt rfl rfl rfl (hr := hl) (k := ?_) | (refine gdLD rfl rfl (fun _ => ?_) (fun _ => ?_) <;> try (exfalso; omega)) | (refine gdLN rfl rfl (fun _ => ?_) (fun _ => ?_) <;> try (exfalso; omega)) | refine gdL rfl rfl (fun _ => ?_) (fun _ => ?_))
      | (show awp _ _ _ _; first | refine goA ?_ | refine awp_reg 3 5 mixed (by kernel_rfl) (by kernel_rfl) ?_ | (refine awp_condD rfl (fun _ => ?_) (fun _ => ?_) <;> try (exfalso; omega)) | (refine awp_condN rfl (fun _ => ?_) (fun _ => ?_) <;> try (exfalso; omega)) | refine awp_cond rfl (fun _ => ?_) (fun _ => ?_))
      | (show andThen _ _ _ _; first | refine goN ?_)
      | (show inBlock _ _ _ _; first | refine goB ?_)
      | (show awpR _ _ _ _ _ _; first | refine goR ?_ | refine clR 27 tt rfl rfl rfl (hr := hl) (k := ?_) | (refine gdRD rfl rfl (fun _ => ?_) (fun _ => ?_) <;> try (exfalso; omega)) | (refine gdRN rfl rfl (fun _ => ?_) (fun _ => ?_) <;> try (exfalso; omega)) | refine gdR rfl rfl (fun _ => ?_) (fun _ => ?_))
      | (show retPost _ _ _ _ _; first | refine finF true rfl rfl sc ?_ | refine finF false rfl rfl sc ?_ | refine finC false rfl rfl sc sc ?_ | refine finN rfl rfl sc ?_ | refine finL true rfl rfl sc rfl (LeR.cons rfl leL LeR.nil) ?_ | refine finA true rfl rfl sc ?_ | refine finA false rfl rfl sc ?_ | refine finE true rfl rfl sc ?_ | refine finE false rfl rfl sc ?_))
    exact leL
  · rw [decide_eq_false h] at hl
    rw [if_neg h]
    refine ret_of_awp tab Tryz.func65 rfl rfl (Nat.le_of_ble_eq_true rfl) (fun w0 F0 => ?_)
    repeat' (first
      | (show awpL _ _ _ _ _; first | refine goL ?_ | refine cl 27 tt rfl rfl rfl (hr := hl) (k := ?_) | refine cl 60 tt rfl rfl rfl (hr := h1) (k := ?_) | refine cl 60 tt rfl rfl rfl (hr := h2) (k := ?_) | (refine gdLD rfl rfl (fun _ => ?_) (fun _ => ?_) <;> try (exfalso; omega)) | (refine gdLN rfl rfl (fun _ => ?_) (fun _ => ?_) <;> try (exfalso; omega)) | refine gdL rfl rfl (fun _ => ?_) (fun _ => ?_))
      | (show awp _ _ _ _; first | refine goA ?_ | refine awp_reg 3 5 mixed (by kernel_rfl) (by kernel_rfl) ?_ | (refine awp_condD rfl (fun _ => ?_) (fun _ => ?_) <;> try (exfalso; omega)) | (refine awp_condN rfl (fun _ => ?_) (fun _ => ?_) <;> try (exfalso; omega)) | refine awp_cond rfl (fun _ => ?_) (fun _ => ?_))
      | (show andThen _ _ _ _; first | refine goN ?_)
      | (show inBlock _ _ _ _; first | refine goB ?_)
      | (show awpR _ _ _ _ _ _; first | refine goR ?_ | refine clR 27 tt rfl rfl rfl (hr := hl) (k := ?_) | refine clR 60 tt rfl rfl rfl (hr := h1) (k := ?_) | refine clR 60 tt rfl rfl rfl (hr := h2) (k := ?_) | (refine gdRD rfl rfl (fun _ => ?_) (fun _ => ?_) <;> try (exfalso; omega)) | (refine gdRN rfl rfl (fun _ => ?_) (fun _ => ?_) <;> try (exfalso; omega)) | refine gdR rfl rfl (fun _ => ?_) (fun _ => ?_))
      | (show retPost _ _ _ _ _; first | refine finF true rfl rfl sc ?_ | refine finF false rfl rfl sc ?_ | refine finC false rfl rfl sc sc ?_ | refine finN rfl rfl sc ?_ | refine finL true rfl rfl sc rfl (LeR.cons rfl leL LeR.nil) ?_ | refine finE true rfl rfl sc ?_ | refine finE false rfl rfl sc ?_))
    rfl
theorem ref04_Contains (a b v : R3) (ha : RatOk a 20000) (hb : RatOk b 20000) (hv : RatOk v 50000) : Ret Tryz.prog 18 [iD a b, rD v] (· = .bool (containsI (takeI (rv a) (rv b)) (rv v))) := by
  have t1 := ref04_Take a b ha hb
  have o1 := takeI_ok (okQ_rv ha (by decide)) (okQ_rv hb (by decide)) (by decide)
  generalize takeI (rv a) (rv b) = i at *
  obtain ⟨p, q⟩ := i
  obtain ⟨op, oq⟩ := o1
  have h1 := ref03_Less v (rq p) (hv.up (by decide)) (ok_rq (op.mono (by decide)))
  have h2 := ref03_Less (rq q) v (ok_rq (oq.mono (by decide))) (hv.up (by decide))
  rw [rv_rq] at h1 h2
  unfold containsI
  simp only
  rw [show decide (p ≤ rv v) = !decide (rv v < p) by rw [← decide_not]; exact decide_eq_decide.2 Rat.not_lt.symm, show decide (rv v ≤ q) = !decide (q < rv v) by rw [← decide_not]; exact decide_eq_decide.2 Rat.not_lt.symm]
  generalize decide (rv v < p) = x at *
  generalize decide (q < rv v) = y at *
  cases x <;> cases y
  · refine ret_of_awp tab Tryz.func18 rfl rfl (Nat.le_of_ble_eq_true rfl) (fun w0 F0 => ?_)
    repeat' (first
      | (show awpL _ _ _ _ _; first | refine goL ?_ | refine cl 65 tt rfl rfl rfl (hr := t1) (k := ?_) | refine cl 27 tt rfl rfl rfl (hr := h1) (k := ?_) | refine cl 27 tt rfl rfl rfl (hr := h2) (k := ?_) | (refine gdLD rfl rfl (fun _ => ?_) (fun _ => ?_) <;> try (exfalso; omega)) | (refine gdLN rfl rfl (fun _ => ?_) (fun _ => ?_) <;> try (exfalso; omega)) | refine gdL rfl rfl (fun _ => ?_) (fun _ => ?_))
      | (show awp _ _ _ _; first | refine goA ?_ | (refine awp_condD rfl (fun _ => ?_) (fun _ => ?_) <;> try (exfalso; omega)) | (refine awp_condN rfl (fun _ => ?_) (fun _ => ?_) <;> try (exfalso; omega)) | refine awp_cond rfl (fun _ => ?_) (fun _ => ?_))
      | (show andThen _ _ _ _; first | refine goN ?_)
      | (show inBlock _ _ _ _; first | refine goB ?_)
      | (show awpR _ _ _ _ _ _; first | refine goR ?_ | refine clR 65 tt rfl rfl rfl (hr := t1) (k := ?_) | refine clR 27 tt rfl rfl rfl (hr := h1) (k := ?_) | refine clR 27 tt rfl rfl rfl (hr := h2) (k := ?_) | (refine gdRD rfl rfl (fun _ => ?_) (fun _ => ?_) <;> try (exfalso; omega)) | (refine gdRN rfl rfl (fun _ => ?_) (fun _ => ?_) <;> try (exfalso; omega)) | refine gdR rfl rfl (fun _ => ?_) (fun _ => ?_))
      | (show retPost _ _ _ _ _; first | refine finF true rfl rfl sc ?_ | refine finF false rfl rfl sc ?_ | refine finC false rfl rfl sc sc ?_ | refine finN rfl rfl sc ?_ | refine finL true rfl rfl sc rfl (LeR.cons rfl leL LeR.nil) ?_ | refine finE true rfl rfl sc ?_ | refine finE false rfl rfl sc ?_))
    rfl
  · refine ret_of_awp tab Tryz.func18 rfl rfl (Nat.le_of_ble_eq_true rfl) (fun w0 F0 => ?_)
    repeat' (first
      | (show awpL _ _ _ _ _; first | refine goL ?_ | refine cl 65 tt rfl rfl rfl (hr := t1) (k := ?_) | refine cl 27 tt rfl rfl rfl (hr := h1) (k := ?_) | refine cl 27 tt rfl rfl rfl (hr := h2) (k := ?_) | (refine gdLD rfl rfl (fun _ => ?_) (fun _ => ?_) <;> try (exfalso; omega)) | (refine gdLN rfl rfl (fun _ => ?_) (fun _ => ?_) <;> try (exfalso; omega)) | refine gdL rfl rfl (fun _ => ?_) (fun _ => ?_))
      | (show awp _ _ _ _; first | refine goA ?_ | (refine awp_condD rfl (fun _ => ?_) (fun _ => ?_) <;> try (exfalso; omega)) | (refine awp_condN rfl (fun _ => ?_) (fun _ => ?_) <;> try (exfalso; omega)) | refine awp_cond rfl (fun _ => ?_) (fun _ => ?_))
      | (show andThen _ _ _ _; first | refine goN ?_)
      | (show inBlock _ _ _ _; first | refine goB ?_)
      | (show awpR _ _ _ _ _ _; first | refine goR ?_ | refine clR 65 tt rfl rfl rfl (hr := t1) (k := ?_) | refine clR 27 tt rfl rfl rfl (hr := h1) (k := ?_) | refine clR 27 tt rfl rfl rfl (hr := h2) (k := ?_) | (refine gdRD rfl rfl (fun _ => ?_) (fun _ => ?_) <;> try (exfalso; omega)) | (refine gdRN rfl rfl (fun _ => ?_) (fun _ => ?_) <;> try (exfalso; omega)) | refine gdR rfl rfl (fun _ => ?_) (fun _ => ?_))
      | (show retPost _ _ _ _ _; first | refine finF true rfl rfl sc ?_ | refine finF false rfl rfl sc ?_ | refine finC false rfl rfl sc sc ?_ | refine finN rfl rfl sc ?_ | refine finL true rfl rfl sc rfl (LeR.cons rfl leL LeR.nil) ?_ | refine finE true rfl rfl sc ?_ | refine finE false rfl rfl sc ?_))
    rfl
  · refine ret_of_awp tab Tryz.func18 rfl rfl (Nat.le_of_ble_eq_true rfl) (fun w0 F0 => ?_)
    repeat' (first
      | (show awpL _ _ _ _ _; first | refine goL ?_ | refine cl 65 tt rfl rfl rfl (hr := t1) (k := ?_) | refine cl 27 tt rfl rfl rfl (hr := h1) (k := ?_) | refine cl 27 tt rfl rfl rfl (hr := h2) (k := ?_) | (refine gdLD rfl rfl (fun _ => ?_) (fun _ => ?_) <;> try (exfalso; omega)) | (refine gdLN rfl rfl (fun _ => ?_) (fun _ => ?_) <;> try (exfalso; omega)) | refine gdL rfl rfl (fun _ => ?_) (fun _ => ?_))
      | (show awp _ _ _ _; first | refine goA ?_ | (refine awp_condD rfl (fun _ => ?_) (fun _ => ?_) <;> try (exfalso; omega)) | (refine awp_condN rfl (fun _ => ?_) (fun _ => ?_) <;> try (exfalso; omega)) | refine awp_cond rfl (fun _ => ?_) (fun _ => ?_))
      | (show andThen _ _ _ _; first | refine goN ?_)
      | (show inBlock _ _ _ _; first | refine goB ?_)
      | (show awpR _ _ _ _ _ _; first | refine goR ?_ | refine clR 65 tt rfl rfl rfl (hr := t1) (k := ?_) | refine clR 27 tt rfl rfl rfl (hr := h1) (k := ?_) | refine clR 27 tt rfl rfl rfl (hr := h2) (k := ?_) | (refine gdRD rfl rfl (fun _ => ?_) (fun _ => ?_) <;> try (exfalso; omega)) | (refine gdRN rfl rfl (fun _ => ?_) (fun _ => ?_) <;> try (exfalso; omega)) | refine gdR rfl rfl (fun _ => ?_) (fun _ => ?_))
      | (show retPost _ _ _ _ _; first | refine finF true rfl rfl sc ?_ | refine finF false rfl rfl sc ?_ | refine finC false rfl rfl sc sc ?_ | refine finN rfl rfl sc ?_ | refine finL true rfl rfl sc rfl (LeR.cons rfl leL LeR.nil) ?_ | refine finE true rfl rfl sc ?_ | refine finE false rfl rfl sc ?_))
    rfl
  · refine ret_of_awp tab Tryz.func18 rfl rfl (Nat.le_of_ble_eq_true rfl) (fun w0 F0 => ?_)
    repeat' (first
      | (show awpL _ _ _ _ _; first | refine goL ?_ | refine cl 65 tt rfl rfl rfl (hr := t1) (k := ?_) | refine cl 27 tt rfl rfl rfl (hr := h1) (k := ?_) | refine cl 27 tt rfl rfl rfl (hr := h2) (k := ?_) | (refine gdLD rfl rfl (fun _ => ?_) (fun _ => ?_) <;> try (exfalso; omega)) | (refine gdLN rfl rfl (fun _ => ?_) (fun _ => ?_) <;> try (exfalso; omega)) | refine gdL rfl rfl (fun _ => ?_) (fun _ => ?_))
      | (show awp _ _ _ _; first | refine goA ?_ | (refine awp_condD rfl (fun _ => ?_) (fun _ => ?_) <;> try (exfalso; omega)) | (refine awp_condN rfl (fun _ => ?_) (fun _ => ?_) <;> try (exfalso; omega)) | refine awp_cond rfl (fun _ => ?_) (fun _ => ?_))
      | (show andThen _ _ _ _; first | refine goN ?_)
      | (show inBlock _ _ _ _; first | refine goB ?_)
      | (show awpR _ _ _ _ _ _; first | refine goR ?_ | refine clR 65 tt rfl rfl rfl (hr := t1) (k := ?_) | refine clR 27 tt rfl rfl rfl (hr := h1) (k := ?_) | refine clR 27 tt rfl rfl rfl (hr := h2) (k := ?_) | (refine gdRD rfl rfl (fun _ => ?_) (fun _ => ?_) <;> try (exfalso; omega)) | (refine gdRN rfl rfl (fun _ => ?_) (fun _ => ?_) <;> try (exfalso; omega)) | refine gdR rfl rfl (fun _ => ?_) (fun _ => ?_))
      | (show retPost _ _ _ _ _; first | refine finF true rfl rfl sc ?_ | refine finF false rfl rfl sc ?_ | refine finC false rfl rfl sc sc ?_ | refine finN rfl rfl sc ?_ | refine finL true rfl rfl sc rfl (LeR.cons rfl leL LeR.nil) ?_ | refine finE true rfl rfl sc ?_ | refine finE false rfl rfl sc ?_))
    rfl
end Go.Proofs.YtjjefhbceoeibaaGreat

/-
  What the matrices of the codings hold. Conditions: as each says.
-/
set_option linter.unusedVariables false
namespace Go.Vw
def codingOk (c n : Int) : Bool := decide (1 ≤ c) && decide (c ≤ 4) && decide (1 ≤ n) && decide (n ≤ 32)
def colsZ (c n : Int) : Int := if c = 4 then n else n - 1
def entryZ (c n i j : Int) : Int :=
  if c = 4 then (if i = j then 1 else 0)
  else if c = 1 then (if i = j + 1 then 1 else 0)
  else if c = 2 then (if i = n - 1 then -1 else if i = j then 1 else 0)
  else (if i ≤ j then -1 else if i = j + 1 then j + 1 else 0)
def rowZ (c n : Int) (i k : Nat) : List R3 := (List.range k).map fun j => zR (entryZ c n i (j : Nat))
def matZ (c n : Int) (k : Nat) : List (List R3) := (List.range k).map fun i => rowZ c n i (colsZ c n).toNat
theorem rowZ_length (c n : Int) (i k : Nat) : (rowZ c n i k).length = k := by simp [rowZ]
theorem matZ_length (c n : Int) (k : Nat) : (matZ c n k).length = k := by simp [matZ]
theorem rowZ_succ (c n : Int) (i k : Nat) : rowZ c n i (k + 1) = rowZ c n i k ++ [zR (entryZ c n i (k : Nat))] := by simp [rowZ, List.range_succ]
theorem matZ_succ (c n : Int) (k : Nat) : matZ c n (k + 1) = matZ c n k ++ [rowZ c n k (colsZ c n).toNat] := by simp [matZ, List.range_succ]
theorem entryZ_bound {c n i j : Int} (hi : 0 ≤ i) (hi' : i < 1000) (hj : 0 ≤ j) (hj' : j < 1000) : -1 ≤ entryZ c n i j ∧ entryZ c n i j ≤ 1000 := by
  unfold entryZ
  split; split <;> omega
  split; split <;> omega
  split; split; omega; split <;> omega
  split; omega; split <;> omega
theorem len_small {z : Int} (h : z.natAbs < 4294967296) : (limbs z.natAbs).length ≤ 1 := length_limbs_le (by simpa [B_val] using h)
end Go.Vw

set_option linter.unusedVariables false
set_option linter.unusedSimpArgs false
namespace Go.Proofs.YtjjefhbceoeibaaGreat
open Go.Vw
attribute [local irreducible] awp awpL awpR

theorem rq_int (z : Int) : rq (z : Rat) = zR z := by
  unfold rq zR
  rw [Rat.num_intCast, Rat.den_intCast]
  rfl
theorem okQ_int {z : Int} (h : z.natAbs < 4294967296) : okQ 1000000 (z : Rat) := by
  unfold okQ
  rw [Rat.num_intCast, Rat.den_intCast, limbs_one]
  exact ⟨Nat.lt_of_le_of_lt (len_small h) (by decide), by decide⟩
theorem ref03_AddI (x y : Int) (hx : x.natAbs < 4294967296) (hy : y.natAbs < 4294967296) : Ret Tryz.prog 45 [rD (zR x), rD (zR y)] (· = rD (zR (x + y))) := by
  have := ref03_AddQ x y (okQ_int hx) (okQ_int hy)
  rw [← Rat.intCast_add, rq_int, rq_int, rq_int] at this; exact this
theorem ref03_MulI (x y : Int) (hx : x.natAbs < 4294967296) (hy : y.natAbs < 4294967296) : Ret Tryz.prog 15 [rD (zR x), rD (zR y)] (· = rD (zR (x * y))) := by
  have := ref03_MulQ x y (okQ_int hx) (okQ_int hy)
  rw [← Rat.intCast_mul, rq_int, rq_int, rq_int] at this; exact this
theorem ref03_SignI (x : Int) (hx : x.natAbs < 4294967296) : Ret Tryz.prog 17 [rD (zR x)] (· = .int .i64 x.sign) := by
  have := ref03_SignQ x (okQ_int hx)
  rw [rq_int, Rat.num_intCast] at this; exact this
theorem zR_zero : zR 0 = r0 := by simp [zR, limbs_zero]
theorem zR_inj {x y : Int} (h : zR x = zR y) : x = y := by
  have := rq_inj (p := (x : Rat)) (q := (y : Rat)) (by rw [rq_int, rq_int, h])
  exact Rat.intCast_inj.1 this
theorem okR_int (z : Int) (h : z.natAbs < 4294967296) : okR 100000000000 (zR z) := ⟨Nat.lt_of_le_of_lt (len_small h) (by decide), by show ([] : List Nat).length < _; decide⟩
theorem ref03_SameI (x y : Int) (hx : x.natAbs < 4294967296) (hy : y.natAbs < 4294967296) : Ret Tryz.prog 50 [rD (zR x), rD (zR y)] (· = .bool (decide (x = y))) := by
  have := ref03_Same (zR x) (zR y) (okR_int x hx) (okR_int y hy)
  rw [show decide (zR x = zR y) = decide (x = y) by
    by_cases h : x = y
    · subst h; simp
    · rw [decide_eq_false h, decide_eq_false (fun e => h (zR_inj e))]] at this
  exact this
end Go.Proofs.YtjjefhbceoeibaaGreat

/-
  Intervals of rational numbers: the two ways to the same results. Conditions: as each says.
-/
set_option linter.unusedVariables false
set_option linter.unusedSimpArgs false
namespace Go.Vw
@[reducible] def iC (a b : R3) : List D := [.bool a.1, u32s a.2.1, u32s a.2.2, .bool b.1, u32s b.2.1, u32s b.2.2]
/-- A new variable of an interval; of a number. -/
abbrev zR3 : List V := [.d (.bool false), .d .nils, .d .nils]
abbrev zI : List V := [.d (.bool false), .d .nils, .d .nils, .d (.bool false), .d .nils, .d .nils]
theorem leQs (l : List Rat) : LeD (rsD (l.map rq)) (qsD l) := LeD.sl (by simp) fun i a b ha hb => by
  rw [List.getElem?_map, hb] at ha
  have e : rq b = a := Option.some.inj ha
  subst e
  exact ⟨rfl, LeL.refl _⟩
theorem minQ_self (x : Rat) : minQ x x = x := by unfold minQ; split <;> rfl
theorem maxQ_self (x : Rat) : maxQ x x = x := by unfold maxQ; split <;> rfl
theorem withinI_eq {i j : I2} (h : i.1 ≤ i.2) : (containsI j i.1 && containsI j i.2) = withinI i j := by
  unfold containsI withinI
  by_cases h1 : j.1 ≤ i.1 <;> by_cases h2 : i.2 ≤ j.2
  · have h3 : i.1 ≤ j.2 := Rat.le_trans h h2
    have h4 : j.1 ≤ i.2 := Rat.le_trans h1 h
    simp [h1, h2, h3, h4]
  · simp [h2]
  · simp [h1]
  · simp [h1]
theorem rv_r0 : rv r0 = 0 := by rw [← rq_zero, rv_rq]
theorem ok_r0 {k : Nat} (h : 1 < k) : RatOk r0 k := by
  have h0 : (0 : Nat) < k := Nat.lt_of_succ_lt h
  exact ⟨by intro x hx; exact absurd hx (by simp [r0]), by intro x hx; exact absurd hx (by simp [r0]), by simpa [r0] using h0, by simpa [r0] using h0⟩
theorem minQ_comm (x y : Rat) : minQ x y = minQ y x := by unfold minQ; split <;> split <;> grind
theorem maxQ_comm (x y : Rat) : maxQ x y = maxQ y x := by unfold maxQ; split <;> split <;> grind
theorem minQ_swap (x y z : Rat) : minQ (minQ x y) z = minQ (minQ x z) y := by unfold minQ; split <;> split <;> grind
theorem maxQ_swap (x y z : Rat) : maxQ (maxQ x y) z = maxQ (maxQ x z) y := by unfold maxQ; split <;> split <;> grind
def divRef (a b : I2) : I2 := hullL (a.1 / b.1) [a.1 / b.2, a.2 / b.1, a.2 / b.2]
theorem divRef_eq (a b : I2) : divRef a b = divI a b := by
  unfold divRef divI mulI hullL
  simp only [List.foldl_cons, List.foldl_nil, Rat.div_def, Rat.one_mul]
  rw [minQ_comm (a.1 * b.1⁻¹), maxQ_comm (a.1 * b.1⁻¹), minQ_swap _ (a.2 * b.1⁻¹), maxQ_swap _ (a.2 * b.1⁻¹)]
def sqRef (a : I2) : I2 := if containsI a 0 then hullL 0 [a.1 * a.1, a.2 * a.2] else hullL (a.1 * a.1) [a.2 * a.2]
theorem sqRef_eq (a : I2) : sqRef a = sqI a := by
  unfold sqRef sqI
  split
  · have h1 := square_nonneg a.1
    have h2 := square_nonneg a.2
    unfold hullL
    simp only [List.foldl_cons, List.foldl_nil]
    generalize a.1 * a.1 = x at *
    generalize a.2 * a.2 = y at *
    refine Prod.ext ?_ ?_
    · show minQ (minQ 0 x) y = 0
      unfold minQ; (repeat' split) <;> grind
    · show maxQ (maxQ 0 x) y = maxQ x y
      unfold maxQ; (repeat' split) <;> grind
  · rfl
/-- 2 to the power of bits. -/
def twoQ (n : Nat) : Rat := ((2 ^ n : Nat) : Int)
theorem twoQ_ne (n : Nat) : twoQ n ≠ 0 := by
  have h : (2 : Nat) ^ n ≠ 0 := Nat.ne_of_gt (Nat.two_pow_pos n)
  unfold twoQ
  intro hc
  have hh : (((2 ^ n : Nat) : Int) : Rat) = ((0 : Int) : Rat) := hc
  have := Rat.intCast_inj.1 hh
  omega
def rootN (v : Rat) (n : Nat) : Nat := rt (v * (twoQ n * twoQ n)).floor.natAbs
def rootLo (v : Rat) (n : Nat) : Rat := ((rootN v n : Nat) : Int) / twoQ n
def rootI (v : Rat) (n : Nat) : I2 := if rootLo v n * rootLo v n = v then (rootLo v n, rootLo v n) else (rootLo v n, rootLo v n + 1 / twoQ n)
theorem rootHi_eq (v : Rat) (n : Nat) : (((rootN v n : Nat) : Int) + 1 : Int) / twoQ n = rootLo v n + 1 / twoQ n := by
  unfold rootLo
  rw [Rat.div_def, Rat.div_def, Rat.div_def, Rat.one_mul, Rat.intCast_add, Rat.add_mul]
  congr 1
  exact Rat.one_mul _
end Go.Vw
