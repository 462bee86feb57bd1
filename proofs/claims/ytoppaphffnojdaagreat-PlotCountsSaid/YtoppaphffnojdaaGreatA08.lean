/-
  Contracts of functions of the program, and the layer that they are walked with: N08 RatsQ R06 N09 RatsC. Conditions: as each says.
-/
import Derived.Test.YtoppaphffnojdaaGreatA07
set_option linter.unusedVariables false
set_option linter.unusedSimpArgs false
namespace Go.Proofs.YtoppaphffnojdaaGreat
open Go.Vw
attribute [local irreducible] awp awpL awpR

theorem integer_Valid (neg : Bool) (mag : List Nat) (hl : mag.length < 1000000000000) : Ret Tryz.prog 110 [intC neg mag] (· = .bool (validI neg mag)) := by
  have hv := natural_Valid mag hl
  unfold validI
  generalize valid mag = v at *
  cases v <;> cases neg
  · refine ret_of_awp tab Tryz.func110 rfl rfl (Nat.le_of_ble_eq_true rfl) (fun w0 F0 => ?_)
    repeat' (first
      | (show awpL _ _ _ _ _; first | refine goL ?_ | refine cl 140 tt rfl rfl rfl (hr := hv) (k := ?_) | (refine gdLD rfl rfl (fun _ => ?_) (fun _ => ?_) <;> try (exfalso; omega)) | (refine gdLN rfl rfl (fun _ => ?_) (fun _ => ?_) <;> try (exfalso; omega)) | refine gdL rfl rfl (fun _ => ?_) (fun _ => ?_))
      | (show awp _ _ _ _; first | refine goA ?_ | (refine awp_condD rfl (fun _ => ?_) (fun _ => ?_) <;> try (exfalso; omega)) | (refine awp_condN rfl (fun _ => ?_) (fun _ => ?_) <;> try (exfalso; omega)) | refine awp_cond rfl (fun _ => ?_) (fun _ => ?_))
      | (show andThen _ _ _ _; first | refine goN ?_)
      | (show inBlock _ _ _ _; first | refine goB ?_)
      | (show awpR _ _ _ _ _ _; first | refine goR ?_ | refine clR 140 tt rfl rfl rfl (hr := hv) (k := ?_) | (refine gdRD rfl rfl (fun _ => ?_) (fun _ => ?_) <;> try (exfalso; omega)) | (refine gdRN rfl rfl (fun _ => ?_) (fun _ => ?_) <;> try (exfalso; omega)) | refine gdR rfl rfl (fun _ => ?_) (fun _ => ?_))
      | (show retPost _ _ _ _ _; first | refine finF true rfl rfl sc ?_ | refine finF false rfl rfl sc ?_ | refine finC false rfl rfl sc sc ?_ | refine finN rfl rfl sc ?_ | refine finL true rfl rfl sc rfl (LeR.cons rfl leL LeR.nil) ?_ | refine finE true rfl rfl sc ?_ | refine finE false rfl rfl sc ?_))
    rfl
  · refine ret_of_awp tab Tryz.func110 rfl rfl (Nat.le_of_ble_eq_true rfl) (fun w0 F0 => ?_)
    repeat' (first
      | (show awpL _ _ _ _ _; first | refine goL ?_ | refine cl 140 tt rfl rfl rfl (hr := hv) (k := ?_) | (refine gdLD rfl rfl (fun _ => ?_) (fun _ => ?_) <;> try (exfalso; omega)) | (refine gdLN rfl rfl (fun _ => ?_) (fun _ => ?_) <;> try (exfalso; omega)) | refine gdL rfl rfl (fun _ => ?_) (fun _ => ?_))
      | (show awp _ _ _ _; first | refine goA ?_ | (refine awp_condD rfl (fun _ => ?_) (fun _ => ?_) <;> try (exfalso; omega)) | (refine awp_condN rfl (fun _ => ?_) (fun _ => ?_) <;> try (exfalso; omega)) | refine awp_cond rfl (fun _ => ?_) (fun _ => ?_))
      | (show andThen _ _ _ _; first | refine goN ?_)
      | (show inBlock _ _ _ _; first | refine goB ?_)
      | (show awpR _ _ _ _ _ _; first | refine goR ?_ | refine clR 140 tt rfl rfl rfl (hr := hv) (k := ?_) | (refine gdRD rfl rfl (fun _ => ?_) (fun _ => ?_) <;> try (exfalso; omega)) | (refine gdRN rfl rfl (fun _ => ?_) (fun _ => ?_) <;> try (exfalso; omega)) | refine gdR rfl rfl (fun _ => ?_) (fun _ => ?_))
      | (show retPost _ _ _ _ _; first | refine finF true rfl rfl sc ?_ | refine finF false rfl rfl sc ?_ | refine finC false rfl rfl sc sc ?_ | refine finN rfl rfl sc ?_ | refine finL true rfl rfl sc rfl (LeR.cons rfl leL LeR.nil) ?_ | refine finE true rfl rfl sc ?_ | refine finE false rfl rfl sc ?_))
    rfl
  · refine ret_of_awp tab Tryz.func110 rfl rfl (Nat.le_of_ble_eq_true rfl) (fun w0 F0 => ?_)
    repeat' (first
      | (show awpL _ _ _ _ _; first | refine goL ?_ | refine cl 140 tt rfl rfl rfl (hr := hv) (k := ?_) | (refine gdLD rfl rfl (fun _ => ?_) (fun _ => ?_) <;> try (exfalso; omega)) | (refine gdLN rfl rfl (fun _ => ?_) (fun _ => ?_) <;> try (exfalso; omega)) | refine gdL rfl rfl (fun _ => ?_) (fun _ => ?_))
      | (show awp _ _ _ _; first | refine goA ?_ | (refine awp_condD rfl (fun _ => ?_) (fun _ => ?_) <;> try (exfalso; omega)) | (refine awp_condN rfl (fun _ => ?_) (fun _ => ?_) <;> try (exfalso; omega)) | refine awp_cond rfl (fun _ => ?_) (fun _ => ?_))
      | (show andThen _ _ _ _; first | refine goN ?_)
      | (show inBlock _ _ _ _; first | refine goB ?_)
      | (show awpR _ _ _ _ _ _; first | refine goR ?_ | refine clR 140 tt rfl rfl rfl (hr := hv) (k := ?_) | (refine gdRD rfl rfl (fun _ => ?_) (fun _ => ?_) <;> try (exfalso; omega)) | (refine gdRN rfl rfl (fun _ => ?_) (fun _ => ?_) <;> try (exfalso; omega)) | refine gdR rfl rfl (fun _ => ?_) (fun _ => ?_))
      | (show retPost _ _ _ _ _; first | refine finF true rfl rfl sc ?_ | refine finF false rfl rfl sc ?_ | refine finC false rfl rfl sc sc ?_ | refine finN rfl rfl sc ?_ | refine finL true rfl rfl sc rfl (LeR.cons rfl leL LeR.nil) ?_ | refine finE true rfl rfl sc ?_ | refine finE false rfl rfl sc ?_))
    all_goals simp
  · refine ret_of_awp tab Tryz.func110 rfl rfl (Nat.le_of_ble_eq_true rfl) (fun w0 F0 => ?_)
    repeat' (first
      | (show awpL _ _ _ _ _; first | refine goL ?_ | refine cl 140 tt rfl rfl rfl (hr := hv) (k := ?_) | (refine gdLD rfl rfl (fun _ => ?_) (fun _ => ?_) <;> try (exfalso; omega)) | (refine gdLN rfl rfl (fun _ => ?_) (fun _ => ?_) <;> try (exfalso; omega)) | refine gdL rfl rfl (fun _ => ?_) (fun _ => ?_))
      | (show awp _ _ _ _; first | refine goA ?_ | (refine awp_condD rfl (fun _ => ?_) (fun _ => ?_) <;> try (exfalso; omega)) | (refine awp_condN rfl (fun _ => ?_) (fun _ => ?_) <;> try (exfalso; omega)) | refine awp_cond rfl (fun _ => ?_) (fun _ => ?_))
      | (show andThen _ _ _ _; first | refine goN ?_)
      | (show inBlock _ _ _ _; first | refine goB ?_)
      | (show awpR _ _ _ _ _ _; first | refine goR ?_ | refine clR 140 tt rfl rfl rfl (hr := hv) (k := ?_) | (refine gdRD rfl rfl (fun _ => ?_) (fun _ => ?_) <;> try (exfalso; omega)) | (refine gdRN rfl rfl (fun _ => ?_) (fun _ => ?_) <;> try (exfalso; omega)) | refine gdR rfl rfl (fun _ => ?_) (fun _ => ?_))
      | (show retPost _ _ _ _ _; first | refine finF true rfl rfl sc ?_ | refine finF false rfl rfl sc ?_ | refine finC false rfl rfl sc sc ?_ | refine finN rfl rfl sc ?_ | refine finL true rfl rfl sc rfl (LeR.cons rfl leL LeR.nil) ?_ | refine finE true rfl rfl sc ?_ | refine finE false rfl rfl sc ?_))
    · rename_i h
      simp
      intro e; subst e; simp at h
    · rename_i h
      simp
      exact List.length_eq_zero_iff.1 (show mag.length = 0 by omega)
theorem integer_value (neg : Bool) (mag : List Nat) (wm : WF mag) (hl : mag.length < 100000000000) : Ret Tryz.prog 69 [intC neg mag] (· = zD (iv' neg mag)) := by
  have hv := integer_Valid neg mag (by omega)
  cases h : validI neg mag with
  | false =>
    rw [h] at hv
    rw [show iv' neg mag = 0 from by simp [iv', h]]
    refine ret_of_awp tab Tryz.func69 rfl rfl (Nat.le_of_ble_eq_true rfl) (fun w0 F0 => ?_)
    rw [zD_zero]
    repeat' (first
      | (show awpL _ _ _ _ _; first | refine goL ?_ | refine cl 110 tt rfl rfl rfl (hr := hv) (k := ?_) | (refine gdLD rfl rfl (fun _ => ?_) (fun _ => ?_) <;> try (exfalso; omega)) | (refine gdLN rfl rfl (fun _ => ?_) (fun _ => ?_) <;> try (exfalso; omega)) | refine gdL rfl rfl (fun _ => ?_) (fun _ => ?_))
      | (show awp _ _ _ _; first | refine goA ?_ | (refine awp_condD rfl (fun _ => ?_) (fun _ => ?_) <;> try (exfalso; omega)) | (refine awp_condN rfl (fun _ => ?_) (fun _ => ?_) <;> try (exfalso; omega)) | refine awp_cond rfl (fun _ => ?_) (fun _ => ?_))
      | (show andThen _ _ _ _; first | refine goN ?_)
      | (show inBlock _ _ _ _; first | refine goB ?_)
      | (show awpR _ _ _ _ _ _; first | refine goR ?_ | refine clR 110 tt rfl rfl rfl (hr := hv) (k := ?_) | (refine gdRD rfl rfl (fun _ => ?_) (fun _ => ?_) <;> try (exfalso; omega)) | (refine gdRN rfl rfl (fun _ => ?_) (fun _ => ?_) <;> try (exfalso; omega)) | refine gdR rfl rfl (fun _ => ?_) (fun _ => ?_))
      | (show retPost _ _ _ _ _; first | refine finF true rfl rfl sc ?_ | refine finF false rfl rfl sc ?_ | refine finC false rfl rfl sc sc ?_ | refine finN rfl rfl sc ?_ | refine finL true rfl rfl sc rfl (LeR.cons rfl leL LeR.nil) ?_ | refine finA true rfl rfl sc ?_ | refine finA false rfl rfl sc ?_ | refine finE true rfl rfl sc ?_ | refine finE false rfl rfl sc ?_))
    exact leL
  | true =>
    rw [h] at hv
    rw [← intC_valid wm h]
    refine ret_of_awp tab Tryz.func69 rfl rfl (Nat.le_of_ble_eq_true rfl) (fun w0 F0 => ?_)
    repeat' (first
      | (show awpL _ _ _ _ _; first | refine goL ?_ | refine cl 110 tt rfl rfl rfl (hr := hv) (k := ?_) | (refine gdLD rfl rfl (fun _ => ?_) (fun _ => ?_) <;> try (exfalso; omega)) | (refine gdLN rfl rfl (fun _ => ?_) (fun _ => ?_) <;> try (exfalso; omega)) | refine gdL rfl rfl (fun _ => ?_) (fun _ => ?_))
      | (show awp _ _ _ _; first | refine goA ?_ | (refine awp_condD rfl (fun _ => ?_) (fun _ => ?_) <;> try (exfalso; omega)) | (refine awp_condN rfl (fun _ => ?_) (fun _ => ?_) <;> try (exfalso; omega)) | refine awp_cond rfl (fun _ => ?_) (fun _ => ?_))
      | (show andThen _ _ _ _; first | refine goN ?_)
      | (show inBlock _ _ _ _; first | refine goB ?_)
      | (show awpR _ _ _ _ _ _; first | refine goR ?_ | refine clR 110 tt rfl rfl rfl (hr := hv) (k := ?_) | (refine gdRD rfl rfl (fun _ => ?_) (fun _ => ?_) <;> try (exfalso; omega)) | (refine gdRN rfl rfl (fun _ => ?_) (fun _ => ?_) <;> try (exfalso; omega)) | refine gdR rfl rfl (fun _ => ?_) (fun _ => ?_))
      | (show retPost _ _ _ _ _; first | refine finF true rfl rfl sc ?_ | refine finF false rfl rfl sc ?_ | refine finC false rfl rfl sc sc ?_ | refine finN rfl rfl sc ?_ | refine finL true rfl rfl sc rfl (LeR.cons rfl leL LeR.nil) ?_ | refine finE true rfl rfl sc ?_ | refine finE false rfl rfl sc ?_))
    rfl
theorem integer_valueZ (z : Int) (hl : (limbs z.natAbs).length < 100000000000) : Ret Tryz.prog 69 [zD z] (· = zD z) := by
  have := integer_value (decide (z < 0)) (limbs z.natAbs) (wf_limbs _) hl
  rw [iv'_z] at this
  exact this
theorem integer_SignZ (z : Int) (hl : (limbs z.natAbs).length < 100000000000) : Ret Tryz.prog 132 [zD z] (· = .int .i64 z.sign) := by
  have ht := integer_valueZ z hl
  obtain ⟨s, n, e1, e2, e3, e4⟩ := zD_cases z
  rw [e1] at ht
  have hn0 : (limbs n).length = 0 ↔ n = 0 := ⟨fun h => limbs_eq_nil.1 (List.length_eq_zero_iff.1 h), fun h => by rw [h, limbs_zero]; rfl⟩
  rw [e1] at *
  cases s with
  | true =>
    have h0 := e4 rfl
    have : z.sign = -1 := Int.sign_eq_neg_one_of_neg (by simp at e2; omega)
    rw [this]
    refine ret_of_awp tab Tryz.func132 rfl rfl (Nat.le_of_ble_eq_true rfl) (fun w0 F0 => ?_)
    repeat' (first
      | (show awpL _ _ _ _ _; first | refine goL ?_ | refine cl 69 tt rfl rfl rfl (hr := ht) (k := ?_) | (refine gdLD rfl rfl (fun _ => ?_) (fun _ => ?_) <;> try (exfalso; omega)) | (refine gdLN rfl rfl (fun _ => ?_) (fun _ => ?_) <;> try (exfalso; omega)) | refine gdL rfl rfl (fun _ => ?_) (fun _ => ?_))
      | (show awp _ _ _ _; first | refine goA ?_ | (refine awp_condD rfl (fun _ => ?_) (fun _ => ?_) <;> try (exfalso; omega)) | (refine awp_condN rfl (fun _ => ?_) (fun _ => ?_) <;> try (exfalso; omega)) | refine awp_cond rfl (fun _ => ?_) (fun _ => ?_))
      | (show andThen _ _ _ _; first | refine goN ?_)
      | (show inBlock _ _ _ _; first | refine goB ?_)
      | (show awpR _ _ _ _ _ _; first | refine goR ?_ | refine clR 69 tt rfl rfl rfl (hr := ht) (k := ?_) | (refine gdRD rfl rfl (fun _ => ?_) (fun _ => ?_) <;> try (exfalso; omega)) | (refine gdRN rfl rfl (fun _ => ?_) (fun _ => ?_) <;> try (exfalso; omega)) | refine gdR rfl rfl (fun _ => ?_) (fun _ => ?_))
      | (show retPost _ _ _ _ _; first | refine finF true rfl rfl sc ?_ | refine finF false rfl rfl sc ?_ | refine finC false rfl rfl sc sc ?_ | refine finN rfl rfl sc ?_ | refine finL true rfl rfl sc rfl (LeR.cons rfl leL LeR.nil) ?_ | refine finE true rfl rfl sc ?_ | refine finE false rfl rfl sc ?_))
    rfl
  | false =>
    simp at e2
    refine ret_of_awp tab Tryz.func132 rfl rfl (Nat.le_of_ble_eq_true rfl) (fun w0 F0 => ?_)
    repeat' (first
      | (show awpL _ _ _ _ _; first | refine goL ?_ | refine cl 69 tt rfl rfl rfl (hr := ht) (k := ?_) | (refine gdLD rfl rfl (fun _ => ?_) (fun _ => ?_) <;> try (exfalso; omega)) | (refine gdLN rfl rfl (fun _ => ?_) (fun _ => ?_) <;> try (exfalso; omega)) | refine gdL rfl rfl (fun _ => ?_) (fun _ => ?_))
      | (show awp _ _ _ _; first | refine goA ?_ | (refine awp_condD rfl (fun _ => ?_) (fun _ => ?_) <;> try (exfalso; omega)) | (refine awp_condN rfl (fun _ => ?_) (fun _ => ?_) <;> try (exfalso; omega)) | refine awp_cond rfl (fun _ => ?_) (fun _ => ?_))
      | (show andThen _ _ _ _; first | refine goN ?_)
      | (show inBlock _ _ _ _; first | refine goB ?_)
      | (show awpR _ _ _ _ _ _; first | refine goR ?_ | refine clR 69 tt rfl rfl rfl (hr := ht) (k := ?_) | (refine gdRD rfl rfl (fun _ => ?_) (fun _ => ?_) <;> try (exfalso; omega)) | (refine gdRN rfl rfl (fun _ => ?_) (fun _ => ?_) <;> try (exfalso; omega)) | refine gdR rfl rfl (fun _ => ?_) (fun _ => ?_))
      | (show retPost _ _ _ _ _; first | refine finF true rfl rfl sc ?_ | refine finF false rfl rfl sc ?_ | refine finC false rfl rfl sc sc ?_ | refine finN rfl rfl sc ?_ | refine finL true rfl rfl sc rfl (LeR.cons rfl leL LeR.nil) ?_ | refine finE true rfl rfl sc ?_ | refine finE false rfl rfl sc ?_))
    · rename_i hp
      have : n = 0 := by omega
      subst this
      rw [e2]; rfl
    · rename_i hp
      have : z.sign = 1 := Int.sign_eq_one_of_pos (by omega)
      rw [this]
theorem integer_copiedZ (z : Int) (hl : (limbs z.natAbs).length < 10000000000) : Ret Tryz.prog 138 [zD z] (· = zD z) := by
  obtain ⟨s, n, e1, e2, e3, e4⟩ := zD_cases z
  rw [e3] at hl
  have ha := natural_AddN n 0 (by omega) (by rw [limbs_zero]; simp)
  rw [limbs_zero, Nat.add_zero] at ha
  have hs := integer_signed s n (by omega)
  rw [← e2] at hs
  rw [e1] at hs ⊢
  refine ret_of_awp tab Tryz.func138 rfl rfl (Nat.le_of_ble_eq_true rfl) (fun w0 F0 => ?_)
  repeat' (first
    | (show awpL _ _ _ _ _; first | refine goL ?_ | refine cl 109 tt rfl rfl rfl (hr := ha) (k := ?_) | refine cl 115 tt rfl rfl rfl (hr := hs) (k := ?_) | (refine gdLD rfl rfl (fun _ => ?_) (fun _ => ?_) <;> try (exfalso; omega)) | (refine gdLN rfl rfl (fun _ => ?_) (fun _ => ?_) <;> try (exfalso; omega)) | refine gdL rfl rfl (fun _ => ?_) (fun _ => ?_))
    | (show awp _ _ _ _; first | refine goA ?_ | refine awp_reg 1 5 mixed (by kernel_rfl) (by kernel_rfl) ?_ | (refine awp_condD rfl (fun _ => ?_) (fun _ => ?_) <;> try (exfalso; omega)) | (refine awp_condN rfl (fun _ => ?_) (fun _ => ?_) <;> try (exfalso; omega)) | refine awp_cond rfl (fun _ => ?_) (fun _ => ?_))
    | (show andThen _ _ _ _; first | refine goN ?_)
    | (show inBlock _ _ _ _; first | refine goB ?_)
    | (show awpR _ _ _ _ _ _; first | refine goR ?_ | refine clR 109 tt rfl rfl rfl (hr := ha) (k := ?_) | refine clR 115 tt rfl rfl rfl (hr := hs) (k := ?_) | (refine gdRD rfl rfl (fun _ => ?_) (fun _ => ?_) <;> try (exfalso; omega)) | (refine gdRN rfl rfl (fun _ => ?_) (fun _ => ?_) <;> try (exfalso; omega)) | refine gdR rfl rfl (fun _ => ?_) (fun _ => ?_))
    | (show retPost _ _ _ _ _; first | refine finF true rfl rfl sc ?_ | refine finF false rfl rfl sc ?_ | refine finC false rfl rfl sc sc ?_ | refine finN rfl rfl sc ?_ | refine finL true rfl rfl sc rfl (LeR.cons rfl leL LeR.nil) ?_ | refine finE true rfl rfl sc ?_ | refine finE false rfl rfl sc ?_))
  rfl
theorem integer_NegZ (z : Int) (hl : (limbs z.natAbs).length < 10000000000) : Ret Tryz.prog 108 [zD z] (· = zD (-z)) := by
  have ht := integer_valueZ z (by omega)
  have hc := integer_copiedZ z hl
  obtain ⟨s, n, e1, e2, e3, e4⟩ := zD_cases z
  rw [e1] at ht hc
  rw [e3] at hl
  have hs := integer_signed (!s) n (by omega)
  have : (if (!s) = true then -(n : Int) else n) = -z := by cases s <;> simp at e2 ⊢ <;> omega
  rw [this] at hs
  rw [e1]
  cases s with
  | true =>
    refine ret_of_awp tab Tryz.func108 rfl rfl (Nat.le_of_ble_eq_true rfl) (fun w0 F0 => ?_)
    repeat' (first
      | (show awpL _ _ _ _ _; first | refine goL ?_ | refine cl 69 tt rfl rfl rfl (hr := ht) (k := ?_) | refine cl 138 tt rfl rfl rfl (hr := hc) (k := ?_) | refine cl 115 tt rfl rfl rfl (hr := hs) (k := ?_) | (refine gdLD rfl rfl (fun _ => ?_) (fun _ => ?_) <;> try (exfalso; omega)) | (refine gdLN rfl rfl (fun _ => ?_) (fun _ => ?_) <;> try (exfalso; omega)) | refine gdL rfl rfl (fun _ => ?_) (fun _ => ?_))
      | (show awp _ _ _ _; first | refine goA ?_ | (refine awp_condD rfl (fun _ => ?_) (fun _ => ?_) <;> try (exfalso; omega)) | (refine awp_condN rfl (fun _ => ?_) (fun _ => ?_) <;> try (exfalso; omega)) | refine awp_cond rfl (fun _ => ?_) (fun _ => ?_))
      | (show andThen _ _ _ _; first | refine goN ?_)
      | (show inBlock _ _ _ _; first | refine goB ?_)
      | (show awpR _ _ _ _ _ _; first | refine goR ?_ | refine clR 69 tt rfl rfl rfl (hr := ht) (k := ?_) | refine clR 138 tt rfl rfl rfl (hr := hc) (k := ?_) | refine clR 115 tt rfl rfl rfl (hr := hs) (k := ?_) | (refine gdRD rfl rfl (fun _ => ?_) (fun _ => ?_) <;> try (exfalso; omega)) | (refine gdRN rfl rfl (fun _ => ?_) (fun _ => ?_) <;> try (exfalso; omega)) | refine gdR rfl rfl (fun _ => ?_) (fun _ => ?_))
      | (show retPost _ _ _ _ _; first | refine finF true rfl rfl sc ?_ | refine finF false rfl rfl sc ?_ | refine finC false rfl rfl sc sc ?_ | refine finN rfl rfl sc ?_ | refine finL true rfl rfl sc rfl (LeR.cons rfl leL LeR.nil) ?_ | refine finE true rfl rfl sc ?_ | refine finE false rfl rfl sc ?_))
    rfl
  | false =>
    refine ret_of_awp tab Tryz.func108 rfl rfl (Nat.le_of_ble_eq_true rfl) (fun w0 F0 => ?_)
    repeat' (first
      | (show awpL _ _ _ _ _; first | refine goL ?_ | refine cl 69 tt rfl rfl rfl (hr := ht) (k := ?_) | refine cl 138 tt rfl rfl rfl (hr := hc) (k := ?_) | refine cl 115 tt rfl rfl rfl (hr := hs) (k := ?_) | (refine gdLD rfl rfl (fun _ => ?_) (fun _ => ?_) <;> try (exfalso; omega)) | (refine gdLN rfl rfl (fun _ => ?_) (fun _ => ?_) <;> try (exfalso; omega)) | refine gdL rfl rfl (fun _ => ?_) (fun _ => ?_))
      | (show awp _ _ _ _; first | refine goA ?_ | (refine awp_condD rfl (fun _ => ?_) (fun _ => ?_) <;> try (exfalso; omega)) | (refine awp_condN rfl (fun _ => ?_) (fun _ => ?_) <;> try (exfalso; omega)) | refine awp_cond rfl (fun _ => ?_) (fun _ => ?_))
      | (show andThen _ _ _ _; first | refine goN ?_)
      | (show inBlock _ _ _ _; first | refine goB ?_)
      | (show awpR _ _ _ _ _ _; first | refine goR ?_ | refine clR 69 tt rfl rfl rfl (hr := ht) (k := ?_) | refine clR 138 tt rfl rfl rfl (hr := hc) (k := ?_) | refine clR 115 tt rfl rfl rfl (hr := hs) (k := ?_) | (refine gdRD rfl rfl (fun _ => ?_) (fun _ => ?_) <;> try (exfalso; omega)) | (refine gdRN rfl rfl (fun _ => ?_) (fun _ => ?_) <;> try (exfalso; omega)) | refine gdR rfl rfl (fun _ => ?_) (fun _ => ?_))
      | (show retPost _ _ _ _ _; first | refine finF true rfl rfl sc ?_ | refine finF false rfl rfl sc ?_ | refine finC false rfl rfl sc sc ?_ | refine finN rfl rfl sc ?_ | refine finL true rfl rfl sc rfl (LeR.cons rfl leL LeR.nil) ?_ | refine finE true rfl rfl sc ?_ | refine finE false rfl rfl sc ?_))
    rfl
theorem integer_AddZ (x y : Int) (h : (limbs x.natAbs).length < 100000000) (k : (limbs y.natAbs).length < 100000000) : Ret Tryz.prog 107 [zD x, zD y] (· = zD (x + y)) := by
  have ta := integer_valueZ x (by omega)
  have tb := integer_valueZ y (by omega)
  obtain ⟨s, a, e1, e2, e3, e4⟩ := zD_cases x
  obtain ⟨t, b, f1, f2, f3, f4⟩ := zD_cases y
  rw [e1] at ta
  rw [f1] at tb
  rw [e3] at h
  rw [f3] at k
  have ladd := ln_add a b
  have ls := len_bound (Nat.sub_le a b) h
  have ls' := len_bound (Nat.sub_le b a) k
  simp only [ln] at ladd
  rw [e1, f1]
  cases s <;> cases t
  · refine ret_of_awp tab Tryz.func107 rfl rfl (Nat.le_of_ble_eq_true rfl) (fun w0 F0 => ?_)
    repeat' (first
      | (show awpL _ _ _ _ _; first | refine goL ?_ | refine cl 69 tt rfl rfl rfl (hr := ta) (k := ?_) | refine cl 69 tt rfl rfl rfl (hr := tb) (k := ?_) | refine cl 114 tt rfl rfl rfl (hr := natural_SubN _ _ (by omega) (by omega)) (k := ?_) | refine cl 115 tt rfl rfl rfl (hr := integer_signed _ _ (by omega)) (k := ?_) | refine cl 109 tt rfl rfl rfl (hr := natural_AddN _ _ (by omega) (by omega)) (k := ?_) | refine cl 115 tt rfl rfl rfl (hr := integer_signed false _ (by omega)) (k := ?_) | (refine gdLD rfl rfl (fun _ => ?_) (fun _ => ?_) <;> try (exfalso; omega)) | (refine gdLN rfl rfl (fun _ => ?_) (fun _ => ?_) <;> try (exfalso; omega)) | refine gdL rfl rfl (fun _ => ?_) (fun _ => ?_))
      | (show awp _ _ _ _; first | refine goA ?_ | refine awp_reg 1 3 mixed (by kernel_rfl) (by kernel_rfl) ?_ | refine awp_reg 3 7 mixed (by kernel_rfl) (by kernel_rfl) ?_ | (refine awp_condD rfl (fun _ => ?_) (fun _ => ?_) <;> try (exfalso; omega)) | (refine awp_condN rfl (fun _ => ?_) (fun _ => ?_) <;> try (exfalso; omega)) | refine awp_cond rfl (fun _ => ?_) (fun _ => ?_))
      | (show andThen _ _ _ _; first | refine goN ?_)
      | (show inBlock _ _ _ _; first | refine goB ?_)
      | (show awpR _ _ _ _ _ _; first | refine goR ?_ | refine clR 69 tt rfl rfl rfl (hr := ta) (k := ?_) | refine clR 69 tt rfl rfl rfl (hr := tb) (k := ?_) | refine clR 114 tt rfl rfl rfl (hr := natural_SubN _ _ (by omega) (by omega)) (k := ?_) | refine clR 115 tt rfl rfl rfl (hr := integer_signed _ _ (by omega)) (k := ?_) | refine clR 109 tt rfl rfl rfl (hr := natural_AddN _ _ (by omega) (by omega)) (k := ?_) | refine clR 115 tt rfl rfl rfl (hr := integer_signed false _ (by omega)) (k := ?_) | (refine gdRD rfl rfl (fun _ => ?_) (fun _ => ?_) <;> try (exfalso; omega)) | (refine gdRN rfl rfl (fun _ => ?_) (fun _ => ?_) <;> try (exfalso; omega)) | refine gdR rfl rfl (fun _ => ?_) (fun _ => ?_))
      | (show retPost _ _ _ _ _; first | refine finF true rfl rfl sc ?_ | refine finF false rfl rfl sc ?_ | refine finC false rfl rfl sc sc ?_ | refine finN rfl rfl sc ?_ | refine finL true rfl rfl sc rfl (LeR.cons rfl leL LeR.nil) ?_ | refine finE true rfl rfl sc ?_ | refine finE false rfl rfl sc ?_))
    refine congrArg zD ?_
    rw [e2, f2]; simp only [Bool.false_eq_true, if_true, if_false]; omega
  · refine ret_of_awp tab Tryz.func107 rfl rfl (Nat.le_of_ble_eq_true rfl) (fun w0 F0 => ?_)
    repeat' (first
      | (show awpL _ _ _ _ _; first | refine goL ?_ | refine cl 69 tt rfl rfl rfl (hr := ta) (k := ?_) | refine cl 69 tt rfl rfl rfl (hr := tb) (k := ?_) | refine cl 114 tt rfl rfl rfl (hr := natural_SubN _ _ (by omega) (by omega)) (k := ?_) | refine cl 115 tt rfl rfl rfl (hr := integer_signed _ _ (by omega)) (k := ?_) | (refine gdLD rfl rfl (fun _ => ?_) (fun _ => ?_) <;> try (exfalso; omega)) | (refine gdLN rfl rfl (fun _ => ?_) (fun _ => ?_) <;> try (exfalso; omega)) | refine gdL rfl rfl (fun _ => ?_) (fun _ => ?_))
      | (show awp _ _ _ _; first | refine goA ?_ | refine awp_reg 1 3 mixed (by kernel_rfl) (by kernel_rfl) ?_ | refine awp_reg 3 7 mixed (by kernel_rfl) (by kernel_rfl) ?_ | (refine awp_condD rfl (fun _ => ?_) (fun _ => ?_) <;> try (exfalso; omega)) | (refine awp_condN rfl (fun _ => ?_) (fun _ => ?_) <;> try (exfalso; omega)) | refine awp_cond rfl (fun _ => ?_) (fun _ => ?_))
      | (show andThen _ _ _ _; first | refine goN ?_)
      | (show inBlock _ _ _ _; first | refine goB ?_)
      | (show awpR _ _ _ _ _ _; first | refine goR ?_ | refine clR 69 tt rfl rfl rfl (hr := ta) (k := ?_) | refine clR 69 tt rfl rfl rfl (hr := tb) (k := ?_) | refine clR 114 tt rfl rfl rfl (hr := natural_SubN _ _ (by omega) (by omega)) (k := ?_) | refine clR 115 tt rfl rfl rfl (hr := integer_signed _ _ (by omega)) (k := ?_) | (refine gdRD rfl rfl (fun _ => ?_) (fun _ => ?_) <;> try (exfalso; omega)) | (refine gdRN rfl rfl (fun _ => ?_) (fun _ => ?_) <;> try (exfalso; omega)) | refine gdR rfl rfl (fun _ => ?_) (fun _ => ?_))
      | (show retPost _ _ _ _ _; first | refine finF true rfl rfl sc ?_ | refine finF false rfl rfl sc ?_ | refine finC false rfl rfl sc sc ?_ | refine finN rfl rfl sc ?_ | refine finL true rfl rfl sc rfl (LeR.cons rfl leL LeR.nil) ?_ | refine finE true rfl rfl sc ?_ | refine finE false rfl rfl sc ?_))
    · refine congrArg zD ?_
      rw [e2, f2]; simp only [Bool.false_eq_true, if_true, if_false]; omega
    · refine congrArg zD ?_
      rw [e2, f2]; simp only [Bool.false_eq_true, if_true, if_false]; omega
  · refine ret_of_awp tab Tryz.func107 rfl rfl (Nat.le_of_ble_eq_true rfl) (fun w0 F0 => ?_)
    repeat' (first
      | (show awpL _ _ _ _ _; first | refine goL ?_ | refine cl 69 tt rfl rfl rfl (hr := ta) (k := ?_) | refine cl 69 tt rfl rfl rfl (hr := tb) (k := ?_) | refine cl 114 tt rfl rfl rfl (hr := natural_SubN _ _ (by omega) (by omega)) (k := ?_) | refine cl 115 tt rfl rfl rfl (hr := integer_signed _ _ (by omega)) (k := ?_) | (refine gdLD rfl rfl (fun _ => ?_) (fun _ => ?_) <;> try (exfalso; omega)) | (refine gdLN rfl rfl (fun _ => ?_) (fun _ => ?_) <;> try (exfalso; omega)) | refine gdL rfl rfl (fun _ => ?_) (fun _ => ?_))
      | (show awp _ _ _ _; first | refine goA ?_ | refine awp_reg 1 3 mixed (by kernel_rfl) (by kernel_rfl) ?_ | refine awp_reg 3 7 mixed (by kernel_rfl) (by kernel_rfl) ?_ | (refine awp_condD rfl (fun _ => ?_) (fun _ => ?_) <;> try (exfalso; omega)) | (refine awp_condN rfl (fun _ => ?_) (fun _ => ?_) <;> try (exfalso; omega)) | refine awp_cond rfl (fun _ => ?_) (fun _ => ?_))
      | (show andThen _ _ _ _; first | refine goN ?_)
      | (show inBlock _ _ _ _; first | refine goB ?_)
      | (show awpR _ _ _ _ _ _; first | refine goR ?_ | refine clR 69 tt rfl rfl rfl (hr := ta) (k := ?_) | refine clR 69 tt rfl rfl rfl (hr := tb) (k := ?_) | refine clR 114 tt rfl rfl rfl (hr := natural_SubN _ _ (by omega) (by omega)) (k := ?_) | refine clR 115 tt rfl rfl rfl (hr := integer_signed _ _ (by omega)) (k := ?_) | (refine gdRD rfl rfl (fun _ => ?_) (fun _ => ?_) <;> try (exfalso; omega)) | (refine gdRN rfl rfl (fun _ => ?_) (fun _ => ?_) <;> try (exfalso; omega)) | refine gdR rfl rfl (fun _ => ?_) (fun _ => ?_))
      | (show retPost _ _ _ _ _; first | refine finF true rfl rfl sc ?_ | refine finF false rfl rfl sc ?_ | refine finC false rfl rfl sc sc ?_ | refine finN rfl rfl sc ?_ | refine finL true rfl rfl sc rfl (LeR.cons rfl leL LeR.nil) ?_ | refine finE true rfl rfl sc ?_ | refine finE false rfl rfl sc ?_))
    · refine congrArg zD ?_
      rw [e2, f2]; simp only [Bool.false_eq_true, if_true, if_false]; omega
    · refine congrArg zD ?_
      rw [e2, f2]; simp only [Bool.false_eq_true, if_true, if_false]; omega
  · refine ret_of_awp tab Tryz.func107 rfl rfl (Nat.le_of_ble_eq_true rfl) (fun w0 F0 => ?_)
    repeat' (first
      | (show awpL _ _ _ _ _; first | refine goL ?_ | refine cl 69 tt rfl rfl rfl (hr := ta) (k := ?_) | refine cl 69 tt rfl rfl rfl (hr := tb) (k := ?_) | refine cl 114 tt rfl rfl rfl (hr := natural_SubN _ _ (by omega) (by omega)) (k := ?_) | refine cl 115 tt rfl rfl rfl (hr := integer_signed _ _ (by omega)) (k := ?_) | refine cl 109 tt rfl rfl rfl (hr := natural_AddN _ _ (by omega) (by omega)) (k := ?_) | refine cl 115 tt rfl rfl rfl (hr := integer_signed true _ (by omega)) (k := ?_) | (refine gdLD rfl rfl (fun _ => ?_) (fun _ => ?_) <;> try (exfalso; omega)) | (refine gdLN rfl rfl (fun _ => ?_) (fun _ => ?_) <;> try (exfalso; omega)) | refine gdL rfl rfl (fun _ => ?_) (fun _ => ?_))
      | (show awp _ _ _ _; first | refine goA ?_ | refine awp_reg 1 3 mixed (by kernel_rfl) (by kernel_rfl) ?_ | refine awp_reg 3 7 mixed (by kernel_rfl) (by kernel_rfl) ?_ | (refine awp_condD rfl (fun _ => ?_) (fun _ => ?_) <;> try (exfalso; omega)) | (refine awp_condN rfl (fun _ => ?_) (fun _ => ?_) <;> try (exfalso; omega)) | refine awp_cond rfl (fun _ => ?_) (fun _ => ?_))
      | (show andThen _ _ _ _; first | refine goN ?_)
      | (show inBlock _ _ _ _; first | refine goB ?_)
      | (show awpR _ _ _ _ _ _; first | refine goR ?_ | refine clR 69 tt rfl rfl rfl (hr := ta) (k := ?_) | refine clR 69 tt rfl rfl rfl (hr := tb) (k := ?_) | refine clR 114 tt rfl rfl rfl (hr := natural_SubN _ _ (by omega) (by omega)) (k := ?_) | refine clR 115 tt rfl rfl rfl (hr := integer_signed _ _ (by omega)) (k := ?_) | refine clR 109 tt rfl rfl rfl (hr := natural_AddN _ _ (by omega) (by omega)) (k := ?_) | refine clR 115 tt rfl rfl rfl (hr := integer_signed true _ (by omega)) (k := ?_) | (refine gdRD rfl rfl (fun _ => ?_) (fun _ => ?_) <;> try (exfalso; omega)) | (refine gdRN rfl rfl (fun _ => ?_) (fun _ => ?_) <;> try (exfalso; omega)) | refine gdR rfl rfl (fun _ => ?_) (fun _ => ?_))
      | (show retPost _ _ _ _ _; first | refine finF true rfl rfl sc ?_ | refine finF false rfl rfl sc ?_ | refine finC false rfl rfl sc sc ?_ | refine finN rfl rfl sc ?_ | refine finL true rfl rfl sc rfl (LeR.cons rfl leL LeR.nil) ?_ | refine finE true rfl rfl sc ?_ | refine finE false rfl rfl sc ?_))
    refine congrArg zD ?_
    rw [e2, f2]; simp only [if_true]; omega
theorem integer_MulZ (x y : Int) (h : (limbs x.natAbs).length < 100000000) (k : (limbs y.natAbs).length < 100000000) : Ret Tryz.prog 74 [zD x, zD y] (· = zD (x * y)) := by
  have ta := integer_valueZ x (by omega)
  have tb := integer_valueZ y (by omega)
  obtain ⟨s, a, e1, e2, e3, e4⟩ := zD_cases x
  obtain ⟨t, b, f1, f2, f3, f4⟩ := zD_cases y
  rw [e1] at ta
  rw [f1] at tb
  rw [e3] at h
  rw [f3] at k
  have lm := ln_mul a b
  simp only [ln] at lm
  have hm := natural_MulN a b (by omega) (by omega)
  have hs := fun s => integer_signed s (a * b) (by omega)
  rw [e1, f1, e2, f2]
  cases s <;> cases t
  · refine ret_of_awp tab Tryz.func74 rfl rfl (Nat.le_of_ble_eq_true rfl) (fun w0 F0 => ?_)
    repeat' (first
      | (show awpL _ _ _ _ _; first | refine goL ?_ | refine cl 69 tt rfl rfl rfl (hr := ta) (k := ?_) | refine cl 69 tt rfl rfl rfl (hr := tb) (k := ?_) | refine cl 76 tt rfl rfl rfl (hr := hm) (k := ?_) | refine cl 115 tt rfl rfl rfl (hr := hs false) (k := ?_) | (refine gdLD rfl rfl (fun _ => ?_) (fun _ => ?_) <;> try (exfalso; omega)) | (refine gdLN rfl rfl (fun _ => ?_) (fun _ => ?_) <;> try (exfalso; omega)) | refine gdL rfl rfl (fun _ => ?_) (fun _ => ?_))
      | (show awp _ _ _ _; first | refine goA ?_ | refine awp_reg 1 3 mixed (by kernel_rfl) (by kernel_rfl) ?_ | refine awp_reg 2 10 mixed (by kernel_rfl) (by kernel_rfl) ?_ | (refine awp_condD rfl (fun _ => ?_) (fun _ => ?_) <;> try (exfalso; omega)) | (refine awp_condN rfl (fun _ => ?_) (fun _ => ?_) <;> try (exfalso; omega)) | refine awp_cond rfl (fun _ => ?_) (fun _ => ?_))
      | (show andThen _ _ _ _; first | refine goN ?_)
      | (show inBlock _ _ _ _; first | refine goB ?_)
      | (show awpR _ _ _ _ _ _; first | refine goR ?_ | refine clR 69 tt rfl rfl rfl (hr := ta) (k := ?_) | refine clR 69 tt rfl rfl rfl (hr := tb) (k := ?_) | refine clR 76 tt rfl rfl rfl (hr := hm) (k := ?_) | refine clR 115 tt rfl rfl rfl (hr := hs false) (k := ?_) | (refine gdRD rfl rfl (fun _ => ?_) (fun _ => ?_) <;> try (exfalso; omega)) | (refine gdRN rfl rfl (fun _ => ?_) (fun _ => ?_) <;> try (exfalso; omega)) | refine gdR rfl rfl (fun _ => ?_) (fun _ => ?_))
      | (show retPost _ _ _ _ _; first | refine finF true rfl rfl sc ?_ | refine finF false rfl rfl sc ?_ | refine finC false rfl rfl sc sc ?_ | refine finN rfl rfl sc ?_ | refine finL true rfl rfl sc rfl (LeR.cons rfl leL LeR.nil) ?_ | refine finE true rfl rfl sc ?_ | refine finE false rfl rfl sc ?_))
    refine congrArg zD ?_
    simp [Int.neg_mul, Int.mul_neg]
  · refine ret_of_awp tab Tryz.func74 rfl rfl (Nat.le_of_ble_eq_true rfl) (fun w0 F0 => ?_)
    repeat' (first
      | (show awpL _ _ _ _ _; first | refine goL ?_ | refine cl 69 tt rfl rfl rfl (hr := ta) (k := ?_) | refine cl 69 tt rfl rfl rfl (hr := tb) (k := ?_) | refine cl 76 tt rfl rfl rfl (hr := hm) (k := ?_) | refine cl 115 tt rfl rfl rfl (hr := hs true) (k := ?_) | (refine gdLD rfl rfl (fun _ => ?_) (fun _ => ?_) <;> try (exfalso; omega)) | (refine gdLN rfl rfl (fun _ => ?_) (fun _ => ?_) <;> try (exfalso; omega)) | refine gdL rfl rfl (fun _ => ?_) (fun _ => ?_))
      | (show awp _ _ _ _; first | refine goA ?_ | refine awp_reg 1 3 mixed (by kernel_rfl) (by kernel_rfl) ?_ | refine awp_reg 2 10 mixed (by kernel_rfl) (by kernel_rfl) ?_ | (refine awp_condD rfl (fun _ => ?_) (fun _ => ?_) <;> try (exfalso; omega)) | (refine awp_condN rfl (fun _ => ?_) (fun _ => ?_) <;> try (exfalso; omega)) | refine awp_cond rfl (fun _ => ?_) (fun _ => ?_))
      | (show andThen _ _ _ _; first | refine goN ?_)
      | (show inBlock _ _ _ _; first | refine goB ?_)
      | (show awpR _ _ _ _ _ _; first | refine goR ?_ | refine clR 69 tt rfl rfl rfl (hr := ta) (k := ?_) | refine clR 69 tt rfl rfl rfl (hr := tb) (k := ?_) | refine clR 76 tt rfl rfl rfl (hr := hm) (k := ?_) | refine clR 115 tt rfl rfl rfl (hr := hs true) (k := ?_) | (refine gdRD rfl rfl (fun _ => ?_) (fun _ => ?_) <;> try (exfalso; omega)) | (refine gdRN rfl rfl (fun _ => ?_) (fun _ => ?_) <;> try (exfalso; omega)) | refine gdR rfl rfl (fun _ => ?_) (fun _ => ?_))
      | (show retPost _ _ _ _ _; first | refine finF true rfl rfl sc ?_ | refine finF false rfl rfl sc ?_ | refine finC false rfl rfl sc sc ?_ | refine finN rfl rfl sc ?_ | refine finL true rfl rfl sc rfl (LeR.cons rfl leL LeR.nil) ?_ | refine finE true rfl rfl sc ?_ | refine finE false rfl rfl sc ?_))
    refine congrArg zD ?_
    simp [Int.neg_mul, Int.mul_neg]
  · refine ret_of_awp tab Tryz.func74 rfl rfl (Nat.le_of_ble_eq_true rfl) (fun w0 F0 => ?_)
    repeat' (first
      | (show awpL _ _ _ _ _; first | refine goL ?_ | refine cl 69 tt rfl rfl rfl (hr := ta) (k := ?_) | refine cl 69 tt rfl rfl rfl (hr := tb) (k := ?_) | refine cl 76 tt rfl rfl rfl (hr := hm) (k := ?_) | refine cl 115 tt rfl rfl rfl (hr := hs true) (k := ?_) | (refine gdLD rfl rfl (fun _ => ?_) (fun _ => ?_) <;> try (exfalso; omega)) | (refine gdLN rfl rfl (fun _ => ?_) (fun _ => ?_) <;> try (exfalso; omega)) | refine gdL rfl rfl (fun _ => ?_) (fun _ => ?_))
      | (show awp _ _ _ _; first | refine goA ?_ | refine awp_reg 1 3 mixed (by kernel_rfl) (by kernel_rfl) ?_ | refine awp_reg 2 10 mixed (by kernel_rfl) (by kernel_rfl) ?_ | (refine awp_condD rfl (fun _ => ?_) (fun _ => ?_) <;> try (exfalso; omega)) | (refine awp_condN rfl (fun _ => ?_) (fun _ => ?_) <;> try (exfalso; omega)) | refine awp_cond rfl (fun _ => ?_) (fun _ => ?_))
      | (show andThen _ _ _ _; first | refine goN ?_)
      | (show inBlock _ _ _ _; first | refine goB ?_)
      | (show awpR _ _ _ _ _ _; first | refine goR ?_ | refine clR 69 tt rfl rfl rfl (hr := ta) (k := ?_) | refine clR 69 tt rfl rfl rfl (hr := tb) (k := ?_) | refine clR 76 tt rfl rfl rfl (hr := hm) (k := ?_) | refine clR 115 tt rfl rfl rfl (hr := hs true) (k := ?_) | (refine gdRD rfl rfl (fun _ => ?_) (fun _ => ?_) <;> try (exfalso; omega)) | (refine gdRN rfl rfl (fun _ => ?_) (fun _ => ?_) <;> try (exfalso; omega)) | refine gdR rfl rfl (fun _ => ?_) (fun _ => ?_))
      | (show retPost _ _ _ _ _; first | refine finF true rfl rfl sc ?_ | refine finF false rfl rfl sc ?_ | refine finC false rfl rfl sc sc ?_ | refine finN rfl rfl sc ?_ | refine finL true rfl rfl sc rfl (LeR.cons rfl leL LeR.nil) ?_ | refine finE true rfl rfl sc ?_ | refine finE false rfl rfl sc ?_))
    refine congrArg zD ?_
    simp [Int.neg_mul, Int.mul_neg]
  · refine ret_of_awp tab Tryz.func74 rfl rfl (Nat.le_of_ble_eq_true rfl) (fun w0 F0 => ?_)
    repeat' (first
      | (show awpL _ _ _ _ _; first | refine goL ?_ | refine cl 69 tt rfl rfl rfl (hr := ta) (k := ?_) | refine cl 69 tt rfl rfl rfl (hr := tb) (k := ?_) | refine cl 76 tt rfl rfl rfl (hr := hm) (k := ?_) | refine cl 115 tt rfl rfl rfl (hr := hs false) (k := ?_) | (refine gdLD rfl rfl (fun _ => ?_) (fun _ => ?_) <;> try (exfalso; omega)) | (refine gdLN rfl rfl (fun _ => ?_) (fun _ => ?_) <;> try (exfalso; omega)) | refine gdL rfl rfl (fun _ => ?_) (fun _ => ?_))
      | (show awp _ _ _ _; first | refine goA ?_ | refine awp_reg 1 3 mixed (by kernel_rfl) (by kernel_rfl) ?_ | refine awp_reg 2 10 mixed (by kernel_rfl) (by kernel_rfl) ?_ | (refine awp_condD rfl (fun _ => ?_) (fun _ => ?_) <;> try (exfalso; omega)) | (refine awp_condN rfl (fun _ => ?_) (fun _ => ?_) <;> try (exfalso; omega)) | refine awp_cond rfl (fun _ => ?_) (fun _ => ?_))
      | (show andThen _ _ _ _; first | refine goN ?_)
      | (show inBlock _ _ _ _; first | refine goB ?_)
      | (show awpR _ _ _ _ _ _; first | refine goR ?_ | refine clR 69 tt rfl rfl rfl (hr := ta) (k := ?_) | refine clR 69 tt rfl rfl rfl (hr := tb) (k := ?_) | refine clR 76 tt rfl rfl rfl (hr := hm) (k := ?_) | refine clR 115 tt rfl rfl rfl (hr := hs false) (k := ?_) | (refine gdRD rfl rfl (fun _ => ?_) (fun _ => ?_) <;> try (exfalso; omega)) | (refine gdRN rfl rfl (fun _ => ?_) (fun _ => ?_) <;> try (exfalso; omega)) | refine gdR rfl rfl (fun _ => ?_) (fun _ => ?_))
      | (show retPost _ _ _ _ _; first | refine finF true rfl rfl sc ?_ | refine finF false rfl rfl sc ?_ | refine finC false rfl rfl sc sc ?_ | refine finN rfl rfl sc ?_ | refine finL true rfl rfl sc rfl (LeR.cons rfl leL LeR.nil) ?_ | refine finE true rfl rfl sc ?_ | refine finE false rfl rfl sc ?_))
    refine congrArg zD ?_
    simp [Int.neg_mul, Int.mul_neg]
theorem cmpZ (x y : Int) (s t : Bool) (a b : Nat) (e2 : x = if s = true then -(a : Int) else a) (f2 : y = if t = true then -(b : Int) else b) (hx : x.sign = y.sign) : x.sign * cmpN a b = (if x < y then -1 else if y < x then 1 else 0) := by
  have hc : cmpN a b = if a < b then -1 else if b < a then 1 else 0 := rfl
  rcases Int.lt_trichotomy x 0 with h | h | h
  · have h1 := Int.sign_eq_neg_one_of_neg h
    have h2 : y < 0 := Int.sign_eq_neg_one_iff_neg.1 (hx ▸ h1)
    rw [h1, hc]
    cases s <;> cases t <;> simp only [Bool.false_eq_true, if_true, if_false] at e2 f2 <;> repeat' split
    all_goals omega
  · have h1 : x.sign = 0 := by rw [h]; rfl
    have h2 : y = 0 := Int.sign_eq_zero_iff_zero.1 (hx ▸ h1)
    rw [h1, Int.zero_mul, if_neg (by omega), if_neg (by omega)]
  · have h1 := Int.sign_eq_one_of_pos h
    have h2 : 0 < y := Int.sign_eq_one_iff_pos.1 (hx ▸ h1)
    rw [h1, hc]
    cases s <;> cases t <;> simp only [Bool.false_eq_true, if_true, if_false] at e2 f2 <;> repeat' split
    all_goals omega
theorem integer_CompareZ (x y : Int) (h : (limbs x.natAbs).length < 100000000) (k : (limbs y.natAbs).length < 100000000) : Ret Tryz.prog 104 [zD x, zD y] (· = .int .i64 (if x < y then -1 else if y < x then 1 else 0)) := by
  have ta := integer_valueZ x (by omega)
  have tb := integer_valueZ y (by omega)
  have sa := integer_SignZ x (by omega)
  have sb := integer_SignZ y (by omega)
  obtain ⟨s, a, e1, e2, e3, e4⟩ := zD_cases x
  obtain ⟨t, b, f1, f2, f3, f4⟩ := zD_cases y
  have hcz := cmpZ x y s t a b e2 f2
  rw [e1] at ta sa
  rw [f1] at tb sb
  rw [e3] at h
  rw [f3] at k
  have hc := natural_CompareN a b (by omega) (by omega)
  have hsx : x.sign = -1 ∧ x < 0 ∨ x.sign = 0 ∧ x = 0 ∨ x.sign = 1 ∧ 0 < x := by
    rcases Int.lt_trichotomy x 0 with h | h | h
    · exact .inl ⟨Int.sign_eq_neg_one_of_neg h, h⟩
    · exact .inr (.inl ⟨by rw [h]; rfl, h⟩)
    · exact .inr (.inr ⟨Int.sign_eq_one_of_pos h, h⟩)
  have hsy : y.sign = -1 ∧ y < 0 ∨ y.sign = 0 ∧ y = 0 ∨ y.sign = 1 ∧ 0 < y := by
    rcases Int.lt_trichotomy y 0 with h | h | h
    · exact .inl ⟨Int.sign_eq_neg_one_of_neg h, h⟩
    · exact .inr (.inl ⟨by rw [h]; rfl, h⟩)
    · exact .inr (.inr ⟨Int.sign_eq_one_of_pos h, h⟩)
  have hcb : -1 ≤ cmpN a b ∧ cmpN a b ≤ 1 := by unfold cmpN; split <;> (try split) <;> omega
  rw [e1, f1]
  generalize x.sign = p at *
  generalize y.sign = q at *
  generalize cmpN a b = c at *
  have hpc : -1 ≤ p * c ∧ p * c ≤ 1 := by
    rcases hsx with ⟨h, _⟩ | ⟨h, _⟩ | ⟨h, _⟩ <;> rw [h] <;> omega
  clear e1 f1 e2 f2 e3 f3 e4 f4
  refine ret_of_awp tab Tryz.func104 rfl rfl (Nat.le_of_ble_eq_true rfl) (fun w0 F0 => ?_)
  repeat' (first
    | (show awpL _ _ _ _ _; first | refine goL ?_ | refine cl 69 tt rfl rfl rfl (hr := ta) (k := ?_) | refine cl 69 tt rfl rfl rfl (hr := tb) (k := ?_) | refine cl 132 tt rfl rfl rfl (hr := sa) (k := ?_) | refine cl 132 tt rfl rfl rfl (hr := sb) (k := ?_) | refine cl 118 tt rfl rfl rfl (hr := hc) (k := ?_) | (refine gdLD rfl rfl (fun _ => ?_) (fun _ => ?_) <;> try (exfalso; omega)) | (refine gdLN rfl rfl (fun _ => ?_) (fun _ => ?_) <;> try (exfalso; omega)) | refine gdL rfl rfl (fun _ => ?_) (fun _ => ?_))
    | (show awp _ _ _ _; first | refine goA ?_ | refine awp_reg 1 3 mixed (by kernel_rfl) (by kernel_rfl) ?_ | refine awp_reg 2 3 mixed (by kernel_rfl) (by kernel_rfl) ?_ | (refine awp_condD rfl (fun _ => ?_) (fun _ => ?_) <;> try (exfalso; omega)) | (refine awp_condN rfl (fun _ => ?_) (fun _ => ?_) <;> try (exfalso; omega)) | refine awp_cond rfl (fun _ => ?_) (fun _ => ?_))
    | (show andThen _ _ _ _; first | refine goN ?_)
    | (show inBlock _ _ _ _; first | refine goB ?_)
    | (show awpR _ _ _ _ _ _; first | refine goR ?_ | refine clR 69 tt rfl rfl rfl (hr := ta) (k := ?_) | refine clR 69 tt rfl rfl rfl (hr := tb) (k := ?_) | refine clR 132 tt rfl rfl rfl (hr := sa) (k := ?_) | refine clR 132 tt rfl rfl rfl (hr := sb) (k := ?_) | refine clR 118 tt rfl rfl rfl (hr := hc) (k := ?_) | (refine gdRD rfl rfl (fun _ => ?_) (fun _ => ?_) <;> try (exfalso; omega)) | (refine gdRN rfl rfl (fun _ => ?_) (fun _ => ?_) <;> try (exfalso; omega)) | refine gdR rfl rfl (fun _ => ?_) (fun _ => ?_))
    | (show retPost _ _ _ _ _; first | refine finF true rfl rfl sc ?_ | refine finF false rfl rfl sc ?_ | refine finC false rfl rfl sc sc ?_ | refine finN rfl rfl sc ?_ | refine finL true rfl rfl sc rfl (LeR.cons rfl leL LeR.nil) ?_ | refine finE true rfl rfl sc ?_ | refine finE false rfl rfl sc ?_))
  · rw [if_pos (by omega)]
  · rw [if_neg (by omega), if_pos (by omega)]
  · rw [← hcz (by omega)]
theorem integer_DivZ (x y : Int) (h : (limbs x.natAbs).length < 10000000) (k : (limbs y.natAbs).length < 10000000) (h0 : y ≠ 0) : Ret Tryz.prog 72 [zD x, zD y] (· = .tup [zD (x / y), zD (x % y), .bool true]) := by
  have ta := integer_valueZ x (by omega)
  have tb := integer_valueZ y (by omega)
  obtain ⟨s, a, e1, e2, e3, e4⟩ := zD_cases x
  obtain ⟨t, b, f1, f2, f3, f4⟩ := zD_cases y
  rw [e1] at ta
  rw [f1] at tb
  rw [e3] at h
  rw [f3] at k
  have hb : b ≠ 0 := by omega
  have hd := natural_DivN a b (by omega) (by omega) hb
  have l1 := len_bound (Nat.div_le_self a b) h
  have hr := Nat.mod_lt a (Nat.pos_of_ne_zero hb)
  have hx := Nat.div_add_mod a b
  have l2 := len_bound (Nat.le_of_lt hr) k
  have l3 := len_bound (Nat.sub_le b (a % b)) k
  have l4 := ln_add (a / b) 1
  have l5 := ln_one
  simp only [ln] at l4 l5
  have ha := natural_AddN (a / b) 1 (by omega) (by omega)
  rw [show limbs 1 = [1] from limbs_small (by decide) (by decide)] at ha
  have hs := natural_SubN b (a % b) (by omega) (by omega)
  have hz : (limbs (a % b)).length = 0 ↔ a % b = 0 := ⟨fun h => limbs_eq_nil.1 (List.length_eq_zero_iff.1 h), fun h => by rw [h, limbs_zero]; rfl⟩
  rw [e1, f1]
  generalize a / b = q at *
  generalize a % b = r at *
  have hx' : (b : Int) * q + r = a := by rw [← hx]; simp
  cases s <;> cases t
  · simp only [Bool.false_eq_true, if_true, if_false] at e2 f2
    refine ret_of_awp tab Tryz.func72 rfl rfl (Nat.le_of_ble_eq_true rfl) (fun w0 F0 => ?_)
    repeat' (first
      | (show awpL _ _ _ _ _; first | refine goL ?_ | refine cl 69 tt rfl rfl rfl (hr := ta) (k := ?_) | refine cl 69 tt rfl rfl rfl (hr := tb) (k := ?_) | refine cl 113 tt rfl rfl rfl (hr := hd) (k := ?_) | refine cl 109 tt rfl rfl rfl (hr := ha) (k := ?_) | refine cl 114 tt rfl rfl rfl (hr := hs) (k := ?_) | refine cl 115 tt rfl rfl rfl (hr := integer_signed _ _ (by omega)) (k := ?_) | (refine gdLD rfl rfl (fun _ => ?_) (fun _ => ?_) <;> try (exfalso; omega)) | (refine gdLN rfl rfl (fun _ => ?_) (fun _ => ?_) <;> try (exfalso; omega)) | refine gdL rfl rfl (fun _ => ?_) (fun _ => ?_))
      | (show awp _ _ _ _; first | refine goA ?_ | refine awp_reg 1 3 mixed (by kernel_rfl) (by kernel_rfl) ?_ | (refine awp_condD rfl (fun _ => ?_) (fun _ => ?_) <;> try (exfalso; omega)) | (refine awp_condN rfl (fun _ => ?_) (fun _ => ?_) <;> try (exfalso; omega)) | refine awp_cond rfl (fun _ => ?_) (fun _ => ?_))
      | (show andThen _ _ _ _; first | refine goN ?_)
      | (show inBlock _ _ _ _; first | refine goB ?_)
      | (show awpR _ _ _ _ _ _; first | refine goR ?_ | refine clR 69 tt rfl rfl rfl (hr := ta) (k := ?_) | refine clR 69 tt rfl rfl rfl (hr := tb) (k := ?_) | refine clR 113 tt rfl rfl rfl (hr := hd) (k := ?_) | refine clR 109 tt rfl rfl rfl (hr := ha) (k := ?_) | refine clR 114 tt rfl rfl rfl (hr := hs) (k := ?_) | refine clR 115 tt rfl rfl rfl (hr := integer_signed _ _ (by omega)) (k := ?_) | (refine gdRD rfl rfl (fun _ => ?_) (fun _ => ?_) <;> try (exfalso; omega)) | (refine gdRN rfl rfl (fun _ => ?_) (fun _ => ?_) <;> try (exfalso; omega)) | refine gdR rfl rfl (fun _ => ?_) (fun _ => ?_))
      | (show retPost _ _ _ _ _; first | refine finF true rfl rfl sc ?_ | refine finF false rfl rfl sc ?_ | refine finC false rfl rfl sc sc ?_ | refine finN rfl rfl sc ?_ | refine finL true rfl rfl sc rfl (LeR.cons rfl leL LeR.nil) ?_ | refine finE true rfl rfl sc ?_ | refine finE false rfl rfl sc ?_))
    · refine divz (q := (q:Int)) (r := (r:Int)) ?_ ?_ ?_
      · rw [e2, f2]; (try simp only [Int.neg_mul, Int.mul_neg, Int.neg_neg, Int.mul_add, Int.mul_one, Int.natCast_add, Int.natCast_one]); omega
      · omega
      · omega
  · simp only [Bool.false_eq_true, if_true, if_false] at e2 f2
    refine ret_of_awp tab Tryz.func72 rfl rfl (Nat.le_of_ble_eq_true rfl) (fun w0 F0 => ?_)
    repeat' (first
      | (show awpL _ _ _ _ _; first | refine goL ?_ | refine cl 69 tt rfl rfl rfl (hr := ta) (k := ?_) | refine cl 69 tt rfl rfl rfl (hr := tb) (k := ?_) | refine cl 113 tt rfl rfl rfl (hr := hd) (k := ?_) | refine cl 109 tt rfl rfl rfl (hr := ha) (k := ?_) | refine cl 114 tt rfl rfl rfl (hr := hs) (k := ?_) | refine cl 115 tt rfl rfl rfl (hr := integer_signed _ _ (by omega)) (k := ?_) | refine cl 115 tt rfl rfl rfl (hr := integer_signed false _ (by omega)) (k := ?_) | refine cl 115 tt rfl rfl rfl (hr := integer_signed true _ (by omega)) (k := ?_) | (refine gdLD rfl rfl (fun _ => ?_) (fun _ => ?_) <;> try (exfalso; omega)) | (refine gdLN rfl rfl (fun _ => ?_) (fun _ => ?_) <;> try (exfalso; omega)) | refine gdL rfl rfl (fun _ => ?_) (fun _ => ?_))
      | (show awp _ _ _ _; first | refine goA ?_ | refine awp_reg 1 3 mixed (by kernel_rfl) (by kernel_rfl) ?_ | (refine awp_condD rfl (fun _ => ?_) (fun _ => ?_) <;> try (exfalso; omega)) | (refine awp_condN rfl (fun _ => ?_) (fun _ => ?_) <;> try (exfalso; omega)) | refine awp_cond rfl (fun _ => ?_) (fun _ => ?_))
      | (show andThen _ _ _ _; first | refine goN ?_)
      | (show inBlock _ _ _ _; first | refine goB ?_)
      | (show awpR _ _ _ _ _ _; first | refine goR ?_ | refine clR 69 tt rfl rfl rfl (hr := ta) (k := ?_) | refine clR 69 tt rfl rfl rfl (hr := tb) (k := ?_) | refine clR 113 tt rfl rfl rfl (hr := hd) (k := ?_) | refine clR 109 tt rfl rfl rfl (hr := ha) (k := ?_) | refine clR 114 tt rfl rfl rfl (hr := hs) (k := ?_) | refine clR 115 tt rfl rfl rfl (hr := integer_signed _ _ (by omega)) (k := ?_) | refine clR 115 tt rfl rfl rfl (hr := integer_signed false _ (by omega)) (k := ?_) | refine clR 115 tt rfl rfl rfl (hr := integer_signed true _ (by omega)) (k := ?_) | (refine gdRD rfl rfl (fun _ => ?_) (fun _ => ?_) <;> try (exfalso; omega)) | (refine gdRN rfl rfl (fun _ => ?_) (fun _ => ?_) <;> try (exfalso; omega)) | refine gdR rfl rfl (fun _ => ?_) (fun _ => ?_))
      | (show retPost _ _ _ _ _; first | refine finF true rfl rfl sc ?_ | refine finF false rfl rfl sc ?_ | refine finC false rfl rfl sc sc ?_ | refine finN rfl rfl sc ?_ | refine finL true rfl rfl sc rfl (LeR.cons rfl leL LeR.nil) ?_ | refine finE true rfl rfl sc ?_ | refine finE false rfl rfl sc ?_))
    · refine divz (q := -(q:Int)) (r := (r:Int)) ?_ ?_ ?_
      · rw [e2, f2]; (try simp only [Int.neg_mul, Int.mul_neg, Int.neg_neg, Int.mul_add, Int.mul_one, Int.natCast_add, Int.natCast_one]); omega
      · omega
      · omega
  · simp only [Bool.false_eq_true, if_true, if_false] at e2 f2
    refine ret_of_awp tab Tryz.func72 rfl rfl (Nat.le_of_ble_eq_true rfl) (fun w0 F0 => ?_)
    repeat' (first
      | (show awpL _ _ _ _ _; first | refine goL ?_ | refine cl 69 tt rfl rfl rfl (hr := ta) (k := ?_) | refine cl 69 tt rfl rfl rfl (hr := tb) (k := ?_) | refine cl 113 tt rfl rfl rfl (hr := hd) (k := ?_) | refine cl 109 tt rfl rfl rfl (hr := ha) (k := ?_) | refine cl 114 tt rfl rfl rfl (hr := hs) (k := ?_) | refine cl 115 tt rfl rfl rfl (hr := integer_signed _ _ (by omega)) (k := ?_) | refine cl 115 tt rfl rfl rfl (hr := integer_signed false _ (by omega)) (k := ?_) | refine cl 115 tt rfl rfl rfl (hr := integer_signed true _ (by omega)) (k := ?_) | (refine gdLD rfl rfl (fun _ => ?_) (fun _ => ?_) <;> try (exfalso; omega)) | (refine gdLN rfl rfl (fun _ => ?_) (fun _ => ?_) <;> try (exfalso; omega)) | refine gdL rfl rfl (fun _ => ?_) (fun _ => ?_))
      | (show awp _ _ _ _; first | refine goA ?_ | refine awp_reg 1 3 mixed (by kernel_rfl) (by kernel_rfl) ?_ | (refine awp_condD rfl (fun _ => ?_) (fun _ => ?_) <;> try (exfalso; omega)) | (refine awp_condN rfl (fun _ => ?_) (fun _ => ?_) <;> try (exfalso; omega)) | refine awp_cond rfl (fun _ => ?_) (fun _ => ?_))
      | (show andThen _ _ _ _; first | refine goN ?_)
      | (show inBlock _ _ _ _; first | refine goB ?_)
      | (show awpR _ _ _ _ _ _; first | refine goR ?_ | refine clR 69 tt rfl rfl rfl (hr := ta) (k := ?_) | refine clR 69 tt rfl rfl rfl (hr := tb) (k := ?_) | refine clR 113 tt rfl rfl rfl (hr := hd) (k := ?_) | refine clR 109 tt rfl rfl rfl (hr := ha) (k := ?_) | refine clR 114 tt rfl rfl rfl (hr := hs) (k := ?_) | refine clR 115 tt rfl rfl rfl (hr := integer_signed _ _ (by omega)) (k := ?_) | refine clR 115 tt rfl rfl rfl (hr := integer_signed false _ (by omega)) (k := ?_) | refine clR 115 tt rfl rfl rfl (hr := integer_signed true _ (by omega)) (k := ?_) | (refine gdRD rfl rfl (fun _ => ?_) (fun _ => ?_) <;> try (exfalso; omega)) | (refine gdRN rfl rfl (fun _ => ?_) (fun _ => ?_) <;> try (exfalso; omega)) | refine gdR rfl rfl (fun _ => ?_) (fun _ => ?_))
      | (show retPost _ _ _ _ _; first | refine finF true rfl rfl sc ?_ | refine finF false rfl rfl sc ?_ | refine finC false rfl rfl sc sc ?_ | refine finN rfl rfl sc ?_ | refine finL true rfl rfl sc rfl (LeR.cons rfl leL LeR.nil) ?_ | refine finE true rfl rfl sc ?_ | refine finE false rfl rfl sc ?_))
    · rename_i hc
      refine divz (q := -((q+1:Nat):Int)) (r := ((b-r:Nat):Int)) ?_ ?_ ?_
      · rw [e2, f2]; (try simp only [Int.neg_mul, Int.mul_neg, Int.neg_neg, Int.mul_add, Int.mul_one, Int.natCast_add, Int.natCast_one]); omega
      · omega
      · omega
    · rename_i hc
      have hc0 : r = 0 := hz.1 (by omega)
      refine divz (q := -(q:Int)) (r := (r:Int)) ?_ ?_ ?_
      · rw [e2, f2]; (try simp only [Int.neg_mul, Int.mul_neg, Int.neg_neg, Int.mul_add, Int.mul_one, Int.natCast_add, Int.natCast_one]); omega
      · omega
      · omega
  · simp only [Bool.false_eq_true, if_true, if_false] at e2 f2
    refine ret_of_awp tab Tryz.func72 rfl rfl (Nat.le_of_ble_eq_true rfl) (fun w0 F0 => ?_)
    repeat' (first
      | (show awpL _ _ _ _ _; first | refine goL ?_ | refine cl 69 tt rfl rfl rfl (hr := ta) (k := ?_) | refine cl 69 tt rfl rfl rfl (hr := tb) (k := ?_) | refine cl 113 tt rfl rfl rfl (hr := hd) (k := ?_) | refine cl 109 tt rfl rfl rfl (hr := ha) (k := ?_) | refine cl 114 tt rfl rfl rfl (hr := hs) (k := ?_) | refine cl 115 tt rfl rfl rfl (hr := integer_signed _ _ (by omega)) (k := ?_) | refine cl 115 tt rfl rfl rfl (hr := integer_signed false _ (by omega)) (k := ?_) | refine cl 115 tt rfl rfl rfl (hr := integer_signed true _ (by omega)) (k := ?_) | (refine gdLD rfl rfl (fun _ => ?_) (fun _ => ?_) <;> try (exfalso; omega)) | (refine gdLN rfl rfl (fun _ => ?_) (fun _ => ?_) <;> try (exfalso; omega)) | refine gdL rfl rfl (fun _ => ?_) (fun _ => ?_))
      | (show awp _ _ _ _; first | refine goA ?_ | refine awp_reg 1 3 mixed (by kernel_rfl) (by kernel_rfl) ?_ | (refine awp_condD rfl (fun _ => ?_) (fun _ => ?_) <;> try (exfalso; omega)) | (refine awp_condN rfl (fun _ => ?_) (fun _ => ?_) <;> try (exfalso; omega)) | refine awp_cond rfl (fun _ => ?_) (fun _ => ?_))
      | (show andThen _ _ _ _; first | refine goN ?_)
      | (show inBlock _ _ _ _; first | refine goB ?_)
      | (show awpR _ _ _ _ _ _; first | refine goR ?_ | refine clR 69 tt rfl rfl rfl (hr := ta) (k := ?_) | refine clR 69 tt rfl rfl rfl (hr := tb) (k := ?_) | refine clR 113 tt rfl rfl rfl (hr := hd) (k := ?_) | refine clR 109 tt rfl rfl rfl (hr := ha) (k := ?_) | refine clR 114 tt rfl rfl rfl (hr := hs) (k := ?_) | refine clR 115 tt rfl rfl rfl (hr := integer_signed _ _ (by omega)) (k := ?_) | refine clR 115 tt rfl rfl rfl (hr := integer_signed false _ (by omega)) (k := ?_) | refine clR 115 tt rfl rfl rfl (hr := integer_signed true _ (by omega)) (k := ?_) | (refine gdRD rfl rfl (fun _ => ?_) (fun _ => ?_) <;> try (exfalso; omega)) | (refine gdRN rfl rfl (fun _ => ?_) (fun _ => ?_) <;> try (exfalso; omega)) | refine gdR rfl rfl (fun _ => ?_) (fun _ => ?_))
      | (show retPost _ _ _ _ _; first | refine finF true rfl rfl sc ?_ | refine finF false rfl rfl sc ?_ | refine finC false rfl rfl sc sc ?_ | refine finN rfl rfl sc ?_ | refine finL true rfl rfl sc rfl (LeR.cons rfl leL LeR.nil) ?_ | refine finE true rfl rfl sc ?_ | refine finE false rfl rfl sc ?_))
    · rename_i hc
      refine divz (q := ((q+1:Nat):Int)) (r := ((b-r:Nat):Int)) ?_ ?_ ?_
      · rw [e2, f2]; (try simp only [Int.neg_mul, Int.mul_neg, Int.neg_neg, Int.mul_add, Int.mul_one, Int.natCast_add, Int.natCast_one]); omega
      · omega
      · omega
    · rename_i hc
      have hc0 : r = 0 := hz.1 (by omega)
      refine divz (q := (q:Int)) (r := (r:Int)) ?_ ?_ ?_
      · rw [e2, f2]; (try simp only [Int.neg_mul, Int.mul_neg, Int.neg_neg, Int.mul_add, Int.mul_one, Int.natCast_add, Int.natCast_one]); omega
      · omega
      · omega
end Go.Proofs.YtoppaphffnojdaaGreat

/-
  Rational numbers: what the fields stand for, and the fields of a number. Conditions: as each says.
-/
set_option linter.unusedVariables false
namespace Go.Vw

/-- The denominator's list: none for 1. -/
def dL (d : Nat) : List Nat := if d = 1 then [] else limbs d
/-- A number's fields. -/
def rq (q : Rat) : R3 := (decide (q.num < 0), limbs q.num.natAbs, dL q.den)
def dv (d : List Nat) : Nat := if d = [] then 1 else val d
/-- The fields are those of a number in lowest terms. -/
def validR (r : R3) : Bool := validI r.1 r.2.1 && valid r.2.2 && !decide (r.2.2 = [1]) && (decide (r.2.2 = []) || (decide (r.2.1 ≠ []) && decide (limbs (Nat.gcd (nv r.2.1) (nv r.2.2)) = [1])))
/-- What fields stand for; 0 if they are not valid. -/
def rv (r : R3) : Rat := if h : validR r = true ∧ dv r.2.2 ≠ 0 ∧ (iv' r.1 r.2.1).natAbs.Coprime (dv r.2.2) then ⟨iv' r.1 r.2.1, dv r.2.2, h.2.1, h.2.2⟩ else 0

theorem limbs_one : limbs 1 = [1] := limbs_small (by decide) (by decide)
theorem valid_one_of {d : List Nat} (h : valid d = true) (w : WF d) (h1 : d ≠ [1]) (h2 : d ≠ []) : 2 ≤ val d := by
  have e := limbs_val w h
  have a : val d ≠ 0 := fun h0 => h2 (by rw [← e, h0, limbs_zero])
  have b : val d ≠ 1 := fun h0 => h1 (by rw [← e, h0, limbs_one])
  omega
theorem dL_dv {d : List Nat} (h : valid d = true) (w : WF d) (h1 : d ≠ [1]) : dL (dv d) = d := by
  by_cases h2 : d = []
  · subst h2; rfl
  · have := valid_one_of h w h1 h2
    rw [dv, if_neg h2, dL, if_neg (by omega), limbs_val w h]
/-- Lists of limbs, and not too long. -/
structure RatOk (r : R3) (k : Nat) : Prop where
  wm : WF r.2.1
  wd : WF r.2.2
  lm : r.2.1.length < k
  ld : r.2.2.length < k
theorem validR_parts {r : R3} (h : validR r = true) (wm : WF r.2.1) (wd : WF r.2.2) : dv r.2.2 ≠ 0 ∧ (iv' r.1 r.2.1).natAbs.Coprime (dv r.2.2) := by
  unfold validR at h
  simp only [Bool.and_eq_true, Bool.or_eq_true, decide_eq_true_eq, Bool.not_eq_true', decide_eq_false_iff_not] at h
  obtain ⟨⟨⟨h1, h2⟩, h3⟩, h4⟩ := h
  by_cases h0 : r.2.2 = []
  · rw [h0]; exact ⟨by decide, by simp [dv]⟩
  · obtain ⟨h4, h5⟩ := h4.resolve_left h0
    have hm : valid r.2.1 = true := by unfold validI at h1; simp at h1; exact h1.1
    have e : dv r.2.2 = val r.2.2 := by rw [dv, if_neg h0]
    have := valid_one_of h2 wd h3 h0
    refine ⟨by rw [e]; omega, ?_⟩
    rw [e, iv'_abs, if_pos h1, Nat.Coprime]
    rw [nv_val hm, nv_val h2, ← limbs_one] at h5
    exact limbs_inj h5
theorem rq_rv {r : R3} (h : validR r = true) (wm : WF r.2.1) (wd : WF r.2.2) : rq (rv r) = r := by
  have hp := validR_parts h wm wd
  unfold rv
  rw [dif_pos ⟨h, hp.1, hp.2⟩]
  unfold validR at h
  simp only [Bool.and_eq_true, Bool.or_eq_true, decide_eq_true_eq, Bool.not_eq_true', decide_eq_false_iff_not] at h
  obtain ⟨⟨⟨h1, h2⟩, h3⟩, h4⟩ := h
  obtain ⟨n, m, d⟩ := r
  simp only at *
  have hz := intC_valid wm h1
  unfold zD intC at hz
  simp only [D.agg.injEq, List.cons.injEq, D.bool.injEq, and_true] at hz
  obtain ⟨g1, g2⟩ := hz
  have g3 : m = limbs (iv' n m).natAbs := by simpa using g2
  unfold rq
  simp only
  rw [dL_dv h2 wd h3, ← g1, ← g3]
theorem dL_valid (d : Nat) : valid (dL d) = true := by
  unfold dL; split
  · rfl
  · exact valid_limbs d
theorem wf_dL (d : Nat) : WF (dL d) := by
  unfold dL; split
  · exact WF.nil
  · exact wf_limbs d
theorem dv_dL {d : Nat} (h : d ≠ 0) : dv (dL d) = d := by
  unfold dL; split
  · rename_i e; rw [e]; rfl
  · rw [dv, if_neg (mt limbs_eq_nil.1 h), val_limbs]
theorem dL_ne1 (d : Nat) : dL d ≠ [1] := by
  unfold dL; split
  · simp
  · rename_i h; rw [← limbs_one]; exact fun e => h (limbs_inj e)
theorem validR_rq (q : Rat) : validR (rq q) = true := by
  unfold validR rq
  simp only [validI_z, dL_valid, Bool.true_and, Bool.and_eq_true, Bool.or_eq_true, decide_eq_true_eq, Bool.not_eq_true', decide_eq_false_iff_not]
  refine ⟨dL_ne1 _, ?_⟩
  by_cases h : q.den = 1
  · left; rw [dL, if_pos h]
  · right
    have hd := q.den_nz
    rw [dL, if_neg h, nv_limbs, nv_limbs]
    have hc : Nat.gcd q.num.natAbs q.den = 1 := q.reduced
    refine ⟨fun e => ?_, by rw [hc, limbs_one]⟩
    rw [limbs_eq_nil] at e
    rw [e, Nat.gcd_zero_left] at hc
    exact h hc
theorem wf_rq (q : Rat) : WF (rq q).2.1 ∧ WF (rq q).2.2 := ⟨wf_limbs _, wf_dL _⟩
theorem rv_rq (q : Rat) : rv (rq q) = q := by
  have hp := validR_parts (validR_rq q) (wf_rq q).1 (wf_rq q).2
  unfold rv
  rw [dif_pos ⟨validR_rq q, hp.1, hp.2⟩]
  have e1 : iv' (rq q).1 (rq q).2.1 = q.num := iv'_z q.num
  have e2 : dv (rq q).2.2 = q.den := dv_dL q.den_nz
  apply Rat.ext
  · exact e1
  · exact e2
theorem rv_invalid {r : R3} (h : validR r = false) : rv r = 0 := by
  unfold rv
  rw [dif_neg]
  rw [h]; simp
theorem rq_zero : rq 0 = r0 := by
  show (decide ((0 : Rat).num < 0), limbs (0 : Rat).num.natAbs, dL (0 : Rat).den) = _
  have a : (0 : Rat).num = 0 := rfl
  have b : (0 : Rat).den = 1 := rfl
  rw [a, b]
  simp [limbs_zero, dL]
theorem rq_inj {p q : Rat} (h : rq p = rq q) : p = q := by rw [← rv_rq p, ← rv_rq q, h]

/-- A number's lists have fewer than k limbs. -/
def okQ (k : Nat) (q : Rat) : Prop := (limbs q.num.natAbs).length < k ∧ (limbs q.den).length < k
theorem okQ.mono {k l : Nat} {q : Rat} (h : okQ k q) (hl : k ≤ l) : okQ l q := ⟨Nat.lt_of_lt_of_le h.1 hl, Nat.lt_of_lt_of_le h.2 hl⟩
theorem okQ_rv {r : R3} {k : Nat} (h : RatOk r k) (hk : 1 < k) : okQ k (rv r) := by
  cases hv : validR r with
  | false => rw [rv_invalid hv]; exact ⟨by show (limbs 0).length < k; rw [limbs_zero]; simp; omega, by show (limbs 1).length < k; rw [limbs_one]; simpa using hk⟩
  | true =>
    have hp := validR_parts hv h.wm h.wd
    unfold rv
    rw [dif_pos ⟨hv, hp.1, hp.2⟩]
    refine ⟨Nat.lt_of_le_of_lt (iv'_len h.wm) h.lm, ?_⟩
    show (limbs (dv r.2.2)).length < k
    unfold dv
    split
    · rw [limbs_one]; simpa using hk
    · exact Nat.lt_of_le_of_lt (length_limbs_le (val_lt h.wd)) h.ld
end Go.Vw

set_option linter.unusedVariables false
set_option linter.unusedSimpArgs false
namespace Go.Proofs.YtoppaphffnojdaaGreat
open Go.Vw
attribute [local irreducible] awp awpL awpR

theorem ref02_SignZ (z : Int) (h : (limbs z.natAbs).length < 100000000000) : Ret Tryz.prog 89 [zD z] (· = .int .i64 z.sign) := by
  have := ref02_Sign _ _ (IntOk.z h); rw [iv'_z] at this; exact this
theorem ref02_NegZ (z : Int) (h : (limbs z.natAbs).length < 100000000000) : Ret Tryz.prog 92 [zD z] (· = zD (-z)) := by
  have := ref02_Neg _ _ (IntOk.z h); rw [iv'_z] at this; exact this
theorem ref02_AddZ (x y : Int) (h : (limbs x.natAbs).length < 10000000000) (k : (limbs y.natAbs).length < 10000000000) : Ret Tryz.prog 95 [zD x, zD y] (· = zD (x + y)) := by
  have := ref02_Add _ _ _ _ (IntOk.z h) (IntOk.z k); rw [iv'_z, iv'_z] at this; exact this
theorem ref02_MulZ (x y : Int) (h : (limbs x.natAbs).length < 1000000000) (k : (limbs y.natAbs).length < 1000000000) : Ret Tryz.prog 84 [zD x, zD y] (· = zD (x * y)) := by
  have := ref02_Mul _ _ _ _ (IntOk.z h) (IntOk.z k); rw [iv'_z, iv'_z] at this; exact this
theorem ref02_GcdZ (x y : Int) (h : (limbs x.natAbs).length < 10000000) (k : (limbs y.natAbs).length < 10000000) : Ret Tryz.prog 93 [zD x, zD y] (· = u32s (limbs (Int.gcd x y))) := by
  have := ref02_Gcd _ _ _ _ (IntOk.z h) (IntOk.z k); rw [iv'_z, iv'_z] at this; exact this
theorem ref02_DivZ (x y : Int) (h : (limbs x.natAbs).length < 10000000) (k : (limbs y.natAbs).length < 10000000) (h0 : y ≠ 0) : Ret Tryz.prog 81 [zD x, zD y] (· = .tup [zD (x / y), zD (x % y), .bool true]) := by
  have := ref02_Div _ _ _ _ (IntOk.z h) (IntOk.z k) (by rw [iv'_z]; exact h0); rw [iv'_z, iv'_z] at this; exact this
theorem zD_nat (n : Nat) : zD (n : Int) = .agg [.bool false, u32s (limbs n)] := by
  unfold zD intC
  rw [decide_eq_false (by omega), Int.natAbs_natCast]

theorem ref03_one (l : List Nat) (hl : l.length < 1000000000000) : Ret Tryz.prog 94 [u32s l] (· = .bool (decide (l = [1]))) := by
  refine ret_of_awp tab Tryz.func94 rfl rfl (Nat.le_of_ble_eq_true rfl) (fun w0 F0 => ?_)
  repeat' (first
    | (show awpL _ _ _ _ _; first | refine goL ?_ | (refine gdLD rfl rfl (fun _ => ?_) (fun _ => ?_) <;> try (exfalso; omega)) | (refine gdLN rfl rfl (fun _ => ?_) (fun _ => ?_) <;> try (exfalso; omega)) | refine gdL rfl rfl (fun _ => ?_) (fun _ => ?_))
    | (show awp _ _ _ _; first | refine goA ?_ | (refine awp_condD rfl (fun _ => ?_) (fun _ => ?_) <;> try (exfalso; omega)) | (refine awp_condN rfl (fun _ => ?_) (fun _ => ?_) <;> try (exfalso; omega)) | refine awp_cond rfl (fun _ => ?_) (fun _ => ?_))
    | (show andThen _ _ _ _; first | refine goN ?_)
    | (show inBlock _ _ _ _; first | refine goB ?_)
    | (show awpR _ _ _ _ _ _; first | refine goR ?_ | (refine gdRD rfl rfl (fun _ => ?_) (fun _ => ?_) <;> try (exfalso; omega)) | (refine gdRN rfl rfl (fun _ => ?_) (fun _ => ?_) <;> try (exfalso; omega)) | refine gdR rfl rfl (fun _ => ?_) (fun _ => ?_))
    | (show retPost _ _ _ _ _; first | refine finF true rfl rfl sc ?_ | refine finF false rfl rfl sc ?_ | refine finC false rfl rfl sc sc ?_ | refine finN rfl rfl sc ?_ | refine finL true rfl rfl sc rfl (LeR.cons rfl leL LeR.nil) ?_ | refine finE true rfl rfl sc ?_ | refine finE false rfl rfl sc ?_))
  · rename_i h
    obtain ⟨x, rfl⟩ := List.length_eq_one_iff.1 (show l.length = 1 by omega)
    congr 1
    simp; omega
  · rename_i h
    congr 1
    symm; rw [decide_eq_false_iff_not]
    intro e; subst e; exact h rfl
theorem ref03_Valid (r : R3) (h : RatOk r 10000000) : Ret Tryz.prog 123 [rD r] (· = .bool (validR r)) := by
  obtain ⟨n, m, d⟩ := r
  obtain ⟨wm, wd, lm, ld⟩ := h
  simp only at wm wd lm ld
  have hi := ref02_Valid n m (by omega)
  have hd := ref01_Valid d (by omega)
  have h1 := ref03_one d (by omega)
  have hg := ref01_Gcd m d lm ld wm wd
  have lg : (limbs (Nat.gcd (nv m) (nv d))).length < 1000000000000 := by
    have l1 := length_limbs_nv wm
    have l2 := length_limbs_nv wd
    by_cases h0 : nv m = 0
    · rw [h0, Nat.gcd_zero_left]; omega
    · have := limbs_len_mono (Nat.gcd_le_left (nv d) (Nat.pos_of_ne_zero h0)); omega
  have h2 := ref03_one _ lg
  unfold validR
  generalize hvi : validI n m = vi at *
  generalize hvd : valid d = vd at *
  refine ret_of_awp tab Tryz.func123 rfl rfl (Nat.le_of_ble_eq_true rfl) (fun w0 F0 => ?_)
  repeat' (first
    | (show awpL _ _ _ _ _; first | refine goL ?_ | refine cl 121 tt rfl rfl rfl (hr := hi) (k := ?_) | refine cl 146 tt rfl rfl rfl (hr := hd) (k := ?_) | refine cl 94 tt rfl rfl rfl (hr := h1) (k := ?_) | refine cl 131 tt rfl rfl rfl (hr := hg) (k := ?_) | refine cl 94 tt rfl rfl rfl (hr := h2) (k := ?_) | (refine gdLD rfl rfl (fun _ => ?_) (fun _ => ?_) <;> try (exfalso; omega)) | (refine gdLN rfl rfl (fun _ => ?_) (fun _ => ?_) <;> try (exfalso; omega)) | refine gdL rfl rfl (fun _ => ?_) (fun _ => ?_))
    | (show awp _ _ _ _; first | refine goA ?_ | (refine awp_condD rfl (fun _ => ?_) (fun _ => ?_) <;> try (exfalso; omega)) | (refine awp_condN rfl (fun _ => ?_) (fun _ => ?_) <;> try (exfalso; omega)) | refine awp_cond rfl (fun _ => ?_) (fun _ => ?_))
    | (show andThen _ _ _ _; first | refine goN ?_)
    | (show inBlock _ _ _ _; first | refine goB ?_)
    | (show awpR _ _ _ _ _ _; first | refine goR ?_ | refine clR 121 tt rfl rfl rfl (hr := hi) (k := ?_) | refine clR 146 tt rfl rfl rfl (hr := hd) (k := ?_) | refine clR 94 tt rfl rfl rfl (hr := h1) (k := ?_) | refine clR 131 tt rfl rfl rfl (hr := hg) (k := ?_) | refine clR 94 tt rfl rfl rfl (hr := h2) (k := ?_) | (refine gdRD rfl rfl (fun _ => ?_) (fun _ => ?_) <;> try (exfalso; omega)) | (refine gdRN rfl rfl (fun _ => ?_) (fun _ => ?_) <;> try (exfalso; omega)) | refine gdR rfl rfl (fun _ => ?_) (fun _ => ?_))
    | (show retPost _ _ _ _ _; first | refine finF true rfl rfl sc ?_ | refine finF false rfl rfl sc ?_ | refine finC false rfl rfl sc sc ?_ | refine finN rfl rfl sc ?_ | refine finL true rfl rfl sc rfl (LeR.cons rfl leL LeR.nil) ?_ | refine finE true rfl rfl sc ?_ | refine finE false rfl rfl sc ?_))
  all_goals
    clear hi hd h1 hg h2
    congr 1
    simp_all
  rename_i hm
  intro _ e; subst e; simp at hm

theorem ref03_Take (r : R3) (h : RatOk r 10000000) : Ret Tryz.prog 80 [rD r] (· = rD (rq (rv r))) := by
  have hv := ref03_Valid r h
  have e := rq_rv (r := r)
  have e0 := rv_invalid (r := r)
  have okq := okQ_rv h (by decide)
  cases hr : validR r with
  | false =>
    rw [hr] at hv
    rw [e0 hr, rq_zero]
    refine ret_of_awp tab Tryz.func80 rfl rfl (Nat.le_of_ble_eq_true rfl) (fun w0 F0 => ?_)
    repeat' (first
      | (show awpL _ _ _ _ _; first | refine goL ?_ | refine cl 123 tt rfl rfl rfl (hr := hv) (k := ?_) | (refine gdLD rfl rfl (fun _ => ?_) (fun _ => ?_) <;> try (exfalso; omega)) | (refine gdLN rfl rfl (fun _ => ?_) (fun _ => ?_) <;> try (exfalso; omega)) | refine gdL rfl rfl (fun _ => ?_) (fun _ => ?_))
      | (show awp _ _ _ _; first | refine goA ?_ | refine awp_reg 3 5 mixed (by kernel_rfl) (by kernel_rfl) ?_ | (refine awp_condD rfl (fun _ => ?_) (fun _ => ?_) <;> try (exfalso; omega)) | (refine awp_condN rfl (fun _ => ?_) (fun _ => ?_) <;> try (exfalso; omega)) | refine awp_cond rfl (fun _ => ?_) (fun _ => ?_))
      | (show andThen _ _ _ _; first | refine goN ?_)
      | (show inBlock _ _ _ _; first | refine goB ?_)
      | (show awpR _ _ _ _ _ _; first | refine goR ?_ | refine clR 123 tt rfl rfl rfl (hr := hv) (k := ?_) | (refine gdRD rfl rfl (fun _ => ?_) (fun _ => ?_) <;> try (exfalso; omega)) | (refine gdRN rfl rfl (fun _ => ?_) (fun _ => ?_) <;> try (exfalso; omega)) | refine gdR rfl rfl (fun _ => ?_) (fun _ => ?_))
      | (show retPost _ _ _ _ _; first | refine finF true rfl rfl sc ?_ | refine finF false rfl rfl sc ?_ | refine finC false rfl rfl sc sc ?_ | refine finN rfl rfl sc ?_ | refine finL true rfl rfl sc rfl (LeR.cons rfl leL LeR.nil) ?_ | refine finA true rfl rfl sc ?_ | refine finA false rfl rfl sc ?_ | refine finE true rfl rfl sc ?_ | refine finE false rfl rfl sc ?_))
    exact leL
  | true =>
    rw [hr] at hv
    have e := e hr h.wm h.wd
    rw [e]
    rw [← e] at hv ⊢
    generalize rv r = q at *
    have ht := ref02_TakeZ q.num (by have := okq.1; omega)
    have hd := ref01_Take (dL q.den) (by have := h.ld; rw [← e] at this; have : (dL q.den).length < 10000000 := this; omega)
    rw [takeL, dL_valid, if_pos rfl] at hd
    refine ret_of_awp tab Tryz.func80 rfl rfl (Nat.le_of_ble_eq_true rfl) (fun w0 F0 => ?_)
    repeat' (first
      | (show awpL _ _ _ _ _; first | refine goL ?_ | refine cl 123 tt rfl rfl rfl (hr := hv) (k := ?_) | refine cl 78 tt rfl rfl rfl (hr := ht) (k := ?_) | refine cl 122 tt rfl rfl rfl (hr := hd) (k := ?_) | (refine gdLD rfl rfl (fun _ => ?_) (fun _ => ?_) <;> try (exfalso; omega)) | (refine gdLN rfl rfl (fun _ => ?_) (fun _ => ?_) <;> try (exfalso; omega)) | refine gdL rfl rfl (fun _ => ?_) (fun _ => ?_))
      | (show awp _ _ _ _; first | refine goA ?_ | refine awp_reg 3 5 mixed (by kernel_rfl) (by kernel_rfl) ?_ | (refine awp_condD rfl (fun _ => ?_) (fun _ => ?_) <;> try (exfalso; omega)) | (refine awp_condN rfl (fun _ => ?_) (fun _ => ?_) <;> try (exfalso; omega)) | refine awp_cond rfl (fun _ => ?_) (fun _ => ?_))
      | (show andThen _ _ _ _; first | refine goN ?_)
      | (show inBlock _ _ _ _; first | refine goB ?_)
      | (show awpR _ _ _ _ _ _; first | refine goR ?_ | refine clR 123 tt rfl rfl rfl (hr := hv) (k := ?_) | refine clR 78 tt rfl rfl rfl (hr := ht) (k := ?_) | refine clR 122 tt rfl rfl rfl (hr := hd) (k := ?_) | (refine gdRD rfl rfl (fun _ => ?_) (fun _ => ?_) <;> try (exfalso; omega)) | (refine gdRN rfl rfl (fun _ => ?_) (fun _ => ?_) <;> try (exfalso; omega)) | refine gdR rfl rfl (fun _ => ?_) (fun _ => ?_))
      | (show retPost _ _ _ _ _; first | refine finF true rfl rfl sc ?_ | refine finF false rfl rfl sc ?_ | refine finC false rfl rfl sc sc ?_ | refine finN rfl rfl sc ?_ | refine finL true rfl rfl sc rfl (LeR.cons rfl leL LeR.nil) ?_ | refine finE true rfl rfl sc ?_ | refine finE false rfl rfl sc ?_))
    rfl
theorem ref03_Den (q : Rat) (h : okQ 10000000 q) : Ret Tryz.prog 82 [rD (rq q)] (· = zD q.den) := by
  have hd := ref01_TakeN q.den (by have := h.2; omega)
  rw [zD_nat]
  by_cases h1 : q.den = 1
  · have e : rq q = (decide (q.num < 0), limbs q.num.natAbs, []) := by rw [rq, h1]; rfl
    rw [e, h1, limbs_one]
    refine ret_of_awp tab Tryz.func82 rfl rfl (Nat.le_of_ble_eq_true rfl) (fun w0 F0 => ?_)
    repeat' (first
      | (show awpL _ _ _ _ _; first | refine goL ?_ | (refine gdLD rfl rfl (fun _ => ?_) (fun _ => ?_) <;> try (exfalso; omega)) | (refine gdLN rfl rfl (fun _ => ?_) (fun _ => ?_) <;> try (exfalso; omega)) | refine gdL rfl rfl (fun _ => ?_) (fun _ => ?_))
      | (show awp _ _ _ _; first | refine goA ?_ | (refine awp_condD rfl (fun _ => ?_) (fun _ => ?_) <;> try (exfalso; omega)) | (refine awp_condN rfl (fun _ => ?_) (fun _ => ?_) <;> try (exfalso; omega)) | refine awp_cond rfl (fun _ => ?_) (fun _ => ?_))
      | (show andThen _ _ _ _; first | refine goN ?_)
      | (show inBlock _ _ _ _; first | refine goB ?_)
      | (show awpR _ _ _ _ _ _; first | refine goR ?_ | (refine gdRD rfl rfl (fun _ => ?_) (fun _ => ?_) <;> try (exfalso; omega)) | (refine gdRN rfl rfl (fun _ => ?_) (fun _ => ?_) <;> try (exfalso; omega)) | refine gdR rfl rfl (fun _ => ?_) (fun _ => ?_))
      | (show retPost _ _ _ _ _; first | refine finF true rfl rfl sc ?_ | refine finF false rfl rfl sc ?_ | refine finC false rfl rfl sc sc ?_ | refine finN rfl rfl sc ?_ | refine finL true rfl rfl sc rfl (LeR.cons rfl leL LeR.nil) ?_ | refine finA true rfl rfl sc ?_ | refine finA false rfl rfl sc ?_ | refine finE true rfl rfl sc ?_ | refine finE false rfl rfl sc ?_))
    exact leL
  · have e : rq q = (decide (q.num < 0), limbs q.num.natAbs, limbs q.den) := by rw [rq, dL, if_neg h1]
    have l0 : (limbs q.den).length ≠ 0 := fun e => q.den_nz (limbs_eq_nil.1 (List.length_eq_zero_iff.1 e))
    rw [e]
    show Ret _ _ [.agg [.bool (decide (q.num < 0)), u32s (limbs q.num.natAbs), u32s (limbs q.den)]] _
    refine ret_of_awp tab Tryz.func82 rfl rfl (Nat.le_of_ble_eq_true rfl) (fun w0 F0 => ?_)
    repeat' (first
      | (show awpL _ _ _ _ _; first | refine goL ?_ | refine cl 122 tt rfl rfl rfl (hr := hd) (k := ?_) | (refine gdLD rfl rfl (fun _ => ?_) (fun _ => ?_) <;> try (exfalso; omega)) | (refine gdLN rfl rfl (fun _ => ?_) (fun _ => ?_) <;> try (exfalso; omega)) | refine gdL rfl rfl (fun _ => ?_) (fun _ => ?_))
      | (show awp _ _ _ _; first | refine goA ?_ | (refine awp_condD rfl (fun _ => ?_) (fun _ => ?_) <;> try (exfalso; omega)) | (refine awp_condN rfl (fun _ => ?_) (fun _ => ?_) <;> try (exfalso; omega)) | refine awp_cond rfl (fun _ => ?_) (fun _ => ?_))
      | (show andThen _ _ _ _; first | refine goN ?_)
      | (show inBlock _ _ _ _; first | refine goB ?_)
      | (show awpR _ _ _ _ _ _; first | refine goR ?_ | refine clR 122 tt rfl rfl rfl (hr := hd) (k := ?_) | (refine gdRD rfl rfl (fun _ => ?_) (fun _ => ?_) <;> try (exfalso; omega)) | (refine gdRN rfl rfl (fun _ => ?_) (fun _ => ?_) <;> try (exfalso; omega)) | refine gdR rfl rfl (fun _ => ?_) (fun _ => ?_))
      | (show retPost _ _ _ _ _; first | refine finF true rfl rfl sc ?_ | refine finF false rfl rfl sc ?_ | refine finC false rfl rfl sc sc ?_ | refine finN rfl rfl sc ?_ | refine finL true rfl rfl sc rfl (LeR.cons rfl leL LeR.nil) ?_ | refine finA true rfl rfl sc ?_ | refine finA false rfl rfl sc ?_ | refine finE true rfl rfl sc ?_ | refine finE false rfl rfl sc ?_))
    exact leL

theorem divInt_parts (a b : Int) (hb : 0 < b) : rq (Rat.divInt a b) = (decide (a / (Int.gcd a b : Nat) < 0), limbs (a / (Int.gcd a b : Nat)).natAbs, dL (b / (Int.gcd a b : Nat)).natAbs) := by
  unfold rq
  rw [Rat.num_divInt, Rat.den_divInt, if_neg (by omega), Int.sign_eq_one_of_pos hb, Int.one_mul, Int.gcd_comm b a]
  have : (b / (Int.gcd a b : Nat)).natAbs = b.natAbs / Int.gcd a b := by
    obtain ⟨n, rfl⟩ := Int.eq_ofNat_of_zero_le (show 0 ≤ b by omega)
    rw [← Int.natCast_ediv, Int.natAbs_natCast, Int.natAbs_natCast]
  rw [this]
theorem over_pos (a b : Int) (hb : 0 < b) (la : (limbs a.natAbs).length < 10000000) (lb : (limbs b.natAbs).length < 10000000) : Ret Tryz.prog 55 [zD a, zD b] (· = rD (rq (Rat.divInt a b))) := by
  have hs := ref02_SignZ b (by omega)
  rw [Int.sign_eq_one_of_pos hb] at hs
  have hg := ref02_GcdZ a b la lb
  have g0 : Int.gcd a b ≠ 0 := fun e => by have := Int.eq_zero_of_gcd_eq_zero_right e; omega
  have lg : (limbs ((Int.gcd a b : Nat) : Int).natAbs).length < 10000000 := by
    rw [Int.natAbs_natCast]
    exact len_bound (Nat.le_of_dvd (by omega) (Int.gcd_dvd_natAbs_right a b)) lb
  have h1 := ref02_DivZ a (Int.gcd a b : Nat) la lg (by omega)
  have h2 := ref02_DivZ b (Int.gcd a b : Nat) lb lg (by omega)
  rw [zD_nat] at h1 h2
  have ho := ref03_one (limbs (b / (Int.gcd a b : Nat)).natAbs) (by
    have := limbs_len_mono (m := (b / (Int.gcd a b : Nat)).natAbs) (n := b.natAbs) (by
      rw [Int.natAbs_ediv_of_nonneg (by omega)]
      exact Nat.div_le_self _ _)
    omega)
  rw [divInt_parts a b hb]
  show Ret _ _ _ (· = .agg [.bool (decide (a / (Int.gcd a b : Nat) < 0)), u32s (limbs (a / (Int.gcd a b : Nat)).natAbs), u32s (dL (b / (Int.gcd a b : Nat)).natAbs)])
  generalize a / (Int.gcd a b : Nat) = x at *
  generalize b / (Int.gcd a b : Nat) = y at *
  refine ret_of_awp tab Tryz.func55 rfl rfl (Nat.le_of_ble_eq_true rfl) (fun w0 F0 => ?_)
  repeat' (first
    | (show awpL _ _ _ _ _; first | refine goL ?_ | refine cl 89 tt rfl rfl rfl (hr := hs) (k := ?_) | refine cl 93 tt rfl rfl rfl (hr := hg) (k := ?_) | refine cl 81 tt rfl rfl rfl (hr := h1) (k := ?_) | refine cl 81 tt rfl rfl rfl (hr := h2) (k := ?_) | refine cl 94 tt rfl rfl rfl (hr := ho) (k := ?_) | (refine gdLD rfl rfl (fun _ => ?_) (fun _ => ?_) <;> try (exfalso; omega)) | (refine gdLN rfl rfl (fun _ => ?_) (fun _ => ?_) <;> try (exfalso; omega)) | refine gdL rfl rfl (fun _ => ?_) (fun _ => ?_))
    | (show awp _ _ _ _; first | refine goA ?_ | refine awp_reg 2 3 mixed (by kernel_rfl) (by kernel_rfl) ?_ | (refine awp_condD rfl (fun _ => ?_) (fun _ => ?_) <;> try (exfalso; omega)) | (refine awp_condN rfl (fun _ => ?_) (fun _ => ?_) <;> try (exfalso; omega)) | refine awp_cond rfl (fun _ => ?_) (fun _ => ?_))
    | (show andThen _ _ _ _; first | refine goN ?_)
    | (show inBlock _ _ _ _; first | refine goB ?_)
    | (show awpR _ _ _ _ _ _; first | refine goR ?_ | refine clR 89 tt rfl rfl rfl (hr := hs) (k := ?_) | refine clR 93 tt rfl rfl rfl (hr := hg) (k := ?_) | refine clR 81 tt rfl rfl rfl (hr := h1) (k := ?_) | refine clR 81 tt rfl rfl rfl (hr := h2) (k := ?_) | refine clR 94 tt rfl rfl rfl (hr := ho) (k := ?_) | (refine gdRD rfl rfl (fun _ => ?_) (fun _ => ?_) <;> try (exfalso; omega)) | (refine gdRN rfl rfl (fun _ => ?_) (fun _ => ?_) <;> try (exfalso; omega)) | refine gdR rfl rfl (fun _ => ?_) (fun _ => ?_))
    | (show retPost _ _ _ _ _; first | refine finF true rfl rfl sc ?_ | refine finF false rfl rfl sc ?_ | refine finC false rfl rfl sc sc ?_ | refine finN rfl rfl sc ?_ | refine finL true rfl rfl sc rfl (LeR.cons rfl leL LeR.nil) ?_ | refine finA true rfl rfl sc ?_ | refine finA false rfl rfl sc ?_ | refine finE true rfl rfl sc ?_ | refine finE false rfl rfl sc ?_))
  · rename_i e
    rw [show dL y.natAbs = [] by rw [dL, if_pos (limbs_inj (e.trans limbs_one.symm))]]
    exact leL
  · rename_i e
    rw [show dL y.natAbs = limbs y.natAbs by rw [dL, if_neg (fun h => e (by rw [h, limbs_one]))]]
    exact leL
theorem over_neg (a b : Int) (hb : b < 0) (la : (limbs a.natAbs).length < 10000000) (lb : (limbs b.natAbs).length < 10000000) : Ret Tryz.prog 55 [zD a, zD b] (· = rD (rq (Rat.divInt a b))) := by
  have hs := ref02_SignZ b (by omega)
  rw [Int.sign_eq_neg_one_of_neg hb] at hs
  have na := ref02_NegZ a (by omega)
  have nb := ref02_NegZ b (by omega)
  rw [← Rat.neg_divInt_neg]
  have hb : 0 < -b := by omega
  rw [← Int.natAbs_neg] at la lb
  generalize -a = a' at *
  generalize -b = b' at *
  have hg := ref02_GcdZ a' b' la lb
  have g0 : Int.gcd a' b' ≠ 0 := fun e => by have := Int.eq_zero_of_gcd_eq_zero_right e; omega
  have lg : (limbs ((Int.gcd a' b' : Nat) : Int).natAbs).length < 10000000 := by
    rw [Int.natAbs_natCast]
    exact len_bound (Nat.le_of_dvd (by omega) (Int.gcd_dvd_natAbs_right a' b')) lb
  have h1 := ref02_DivZ a' (Int.gcd a' b' : Nat) la lg (by omega)
  have h2 := ref02_DivZ b' (Int.gcd a' b' : Nat) lb lg (by omega)
  rw [zD_nat] at h1 h2
  have ho := ref03_one (limbs (b' / (Int.gcd a' b' : Nat)).natAbs) (by
    have := limbs_len_mono (m := (b' / (Int.gcd a' b' : Nat)).natAbs) (n := b'.natAbs) (by
      rw [Int.natAbs_ediv_of_nonneg (by omega)]
      exact Nat.div_le_self _ _)
    omega)
  rw [divInt_parts a' b' hb]
  show Ret _ _ _ (· = .agg [.bool (decide (a' / (Int.gcd a' b' : Nat) < 0)), u32s (limbs (a' / (Int.gcd a' b' : Nat)).natAbs), u32s (dL (b' / (Int.gcd a' b' : Nat)).natAbs)])
  generalize a' / (Int.gcd a' b' : Nat) = x at *
  generalize b' / (Int.gcd a' b' : Nat) = y at *
  refine ret_of_awp tab Tryz.func55 rfl rfl (Nat.le_of_ble_eq_true rfl) (fun w0 F0 => ?_)
  repeat' (first
    | (show awpL _ _ _ _ _; first | refine goL ?_ | refine cl 89 tt rfl rfl rfl (hr := hs) (k := ?_) | refine cl 92 tt rfl rfl rfl (hr := na) (k := ?_) | refine cl 92 tt rfl rfl rfl (hr := nb) (k := ?_) | refine cl 93 tt rfl rfl rfl (hr := hg) (k := ?_) | refine cl 81 tt rfl rfl rfl (hr := h1) (k := ?_) | refine cl 81 tt rfl rfl rfl (hr := h2) (k := ?_) | refine cl 94 tt rfl rfl rfl (hr := ho) (k := ?_) | (refine gdLD rfl rfl (fun _ => ?_) (fun _ => ?_) <;> try (exfalso; omega)) | (refine gdLN rfl rfl (fun _ => ?_) (fun _ => ?_) <;> try (exfalso; omega)) | refine gdL rfl rfl (fun _ => ?_) (fun _ => ?_))
    | (show awp _ _ _ _; first | refine goA ?_ | refine awp_reg 2 3 mixed (by kernel_rfl) (by kernel_rfl) ?_ | (refine awp_condD rfl (fun _ => ?_) (fun _ => ?_) <;> try (exfalso; omega)) | (refine awp_condN rfl (fun _ => ?_) (fun _ => ?_) <;> try (exfalso; omega)) | refine awp_cond rfl (fun _ => ?_) (fun _ => ?_))
    | (show andThen _ _ _ _; first | refine goN ?_)
    | (show inBlock _ _ _ _; first | refine goB ?_)
    | (show awpR _ _ _ _ _ _; first | refine goR ?_ | refine clR 89 tt rfl rfl rfl (hr := hs) (k := ?_) | refine clR 92 tt rfl rfl rfl (hr := na) (k := ?_) | refine clR 92 tt rfl rfl rfl (hr := nb) (k := ?_) | refine clR 93 tt rfl rfl rfl (hr := hg) (k := ?_) | refine clR 81 tt rfl rfl rfl (hr := h1) (k := ?_) | refine clR 81 tt rfl rfl rfl (hr := h2) (k := ?_) | refine clR 94 tt rfl rfl rfl (hr := ho) (k := ?_) | (refine gdRD rfl rfl (fun _ => ?_) (fun _ => ?_) <;> try (exfalso; omega)) | (refine gdRN rfl rfl (fun _ => ?_) (fun _ => ?_) <;> try (exfalso; omega)) | refine gdR rfl rfl (fun _ => ?_) (fun _ => ?_))
    | (show retPost _ _ _ _ _; first | refine finF true rfl rfl sc ?_ | refine finF false rfl rfl sc ?_ | refine finC false rfl rfl sc sc ?_ | refine finN rfl rfl sc ?_ | refine finL true rfl rfl sc rfl (LeR.cons rfl leL LeR.nil) ?_ | refine finA true rfl rfl sc ?_ | refine finA false rfl rfl sc ?_ | refine finE true rfl rfl sc ?_ | refine finE false rfl rfl sc ?_))
  · rename_i e
    rw [show dL y.natAbs = [] by rw [dL, if_pos (limbs_inj (e.trans limbs_one.symm))]]
    exact leL
  · rename_i e
    rw [show dL y.natAbs = limbs y.natAbs by rw [dL, if_neg (fun h => e (by rw [h, limbs_one]))]]
    exact leL
theorem ref03_over (a b : Int) (hb : b ≠ 0) (la : (limbs a.natAbs).length < 10000000) (lb : (limbs b.natAbs).length < 10000000) : Ret Tryz.prog 55 [zD a, zD b] (· = rD (rq (Rat.divInt a b))) := by
  rcases Int.lt_or_gt_of_ne hb with h | h
  · exact over_neg a b h la lb
  · exact over_pos a b h la lb

theorem ref03_TakeQ (q : Rat) (h : okQ 10000000 q) : Ret Tryz.prog 80 [rD (rq q)] (· = rD (rq q)) := by
  have hd : (dL q.den).length < 10000000 := by unfold dL; split; decide; exact h.2
  have := ref03_Take (rq q) ⟨(wf_rq q).1, (wf_rq q).2, h.1, hd⟩
  rw [rv_rq] at this; exact this
theorem ref03_Add (r t : R3) (hr : RatOk r 1000000) (ht : RatOk t 1000000) : Ret Tryz.prog 56 [rD r, rD t] (· = rD (rq (rv r + rv t))) := by
  have tr := ref03_Take r ⟨hr.wm, hr.wd, by have := hr.lm; omega, by have := hr.ld; omega⟩
  have tk := ref03_Take t ⟨ht.wm, ht.wd, by have := ht.lm; omega, by have := ht.ld; omega⟩
  have or := okQ_rv hr (by decide)
  have ot := okQ_rv ht (by decide)
  generalize rv r = x at *
  generalize rv t = y at *
  have dx := ref03_Den x (or.mono (by decide))
  have dy := ref03_Den y (ot.mono (by decide))
  obtain ⟨x1, x2⟩ := or
  obtain ⟨y1, y2⟩ := ot
  have m1 := ref02_MulZ x.num y.den (by omega) (by rw [Int.natAbs_natCast]; omega)
  have m2 := ref02_MulZ y.num x.den (by omega) (by rw [Int.natAbs_natCast]; omega)
  have m3 := ref02_MulZ x.den y.den (by rw [Int.natAbs_natCast]; omega) (by rw [Int.natAbs_natCast]; omega)
  have l1 := ln_mul x.num.natAbs y.den
  have l2 := ln_mul y.num.natAbs x.den
  have l3 := ln_mul x.den y.den
  simp only [ln] at l1 l2 l3
  have e1 : (x.num * (y.den : Int)).natAbs = x.num.natAbs * y.den := by rw [Int.natAbs_mul, Int.natAbs_natCast]
  have e2 : (y.num * (x.den : Int)).natAbs = y.num.natAbs * x.den := by rw [Int.natAbs_mul, Int.natAbs_natCast]
  have e3 : ((x.den : Int) * (y.den : Int)).natAbs = x.den * y.den := by rw [Int.natAbs_mul, Int.natAbs_natCast, Int.natAbs_natCast]
  have a1 := ref02_AddZ (x.num * y.den) (y.num * x.den) (by rw [e1]; omega) (by rw [e2]; omega)
  have l4 := ln_mono (Int.natAbs_add_le (x.num * y.den) (y.num * x.den))
  have l5 := ln_add (x.num * (y.den : Int)).natAbs (y.num * (x.den : Int)).natAbs
  simp only [ln] at l4 l5
  rw [e1, e2] at l4 l5
  have o := ref03_over (x.num * y.den + y.num * x.den) (x.den * y.den) (by have := x.den_nz; have := y.den_nz; simp; omega) (by omega) (by rw [e3]; omega)
  rw [show Rat.divInt (x.num * y.den + y.num * x.den) ((x.den : Int) * y.den) = x + y by rw [Rat.add_def', ← Rat.divInt_ofNat]; simp] at o
  refine ret_of_awp tab Tryz.func56 rfl rfl (Nat.le_of_ble_eq_true rfl) (fun w0 F0 => ?_)
  repeat' (first
    | (show awpL _ _ _ _ _; first | refine goL ?_ | refine cl 80 tt rfl rfl rfl (hr := tr) (k := ?_) | refine cl 80 tt rfl rfl rfl (hr := tk) (k := ?_) | refine cl 82 tt rfl rfl rfl (hr := dx) (k := ?_) | refine cl 82 tt rfl rfl rfl (hr := dy) (k := ?_) | refine cl 84 tt rfl rfl rfl (hr := m1) (k := ?_) | refine cl 84 tt rfl rfl rfl (hr := m2) (k := ?_) | refine cl 84 tt rfl rfl rfl (hr := m3) (k := ?_) | refine cl 95 tt rfl rfl rfl (hr := a1) (k := ?_) | refine cl 55 tt rfl rfl rfl (hr := o) (k := ?_) | (refine gdLD rfl rfl (fun _ => ?_) (fun _ => ?_) <;> try (exfalso; omega)) | (refine gdLN rfl rfl (fun _ => ?_) (fun _ => ?_) <;> try (exfalso; omega)) | refine gdL rfl rfl (fun _ => ?_) (fun _ => ?_))
    | (show awp _ _ _ _; first | refine goA ?_ | refine awp_reg 1 3 mixed (by kernel_rfl) (by kernel_rfl) ?_ | refine awp_reg 2 14 mixed (by kernel_rfl) (by kernel_rfl) ?_ | (refine awp_condD rfl (fun _ => ?_) (fun _ => ?_) <;> try (exfalso; omega)) | (refine awp_condN rfl (fun _ => ?_) (fun _ => ?_) <;> try (exfalso; omega)) | refine awp_cond rfl (fun _ => ?_) (fun _ => ?_))
    | (show andThen _ _ _ _; first | refine goN ?_)
    | (show inBlock _ _ _ _; first | refine goB ?_)
    | (show awpR _ _ _ _ _ _; first | refine goR ?_ | refine clR 80 tt rfl rfl rfl (hr := tr) (k := ?_) | refine clR 80 tt rfl rfl rfl (hr := tk) (k := ?_) | refine clR 82 tt rfl rfl rfl (hr := dx) (k := ?_) | refine clR 82 tt rfl rfl rfl (hr := dy) (k := ?_) | refine clR 84 tt rfl rfl rfl (hr := m1) (k := ?_) | refine clR 84 tt rfl rfl rfl (hr := m2) (k := ?_) | refine clR 84 tt rfl rfl rfl (hr := m3) (k := ?_) | refine clR 95 tt rfl rfl rfl (hr := a1) (k := ?_) | refine clR 55 tt rfl rfl rfl (hr := o) (k := ?_) | (refine gdRD rfl rfl (fun _ => ?_) (fun _ => ?_) <;> try (exfalso; omega)) | (refine gdRN rfl rfl (fun _ => ?_) (fun _ => ?_) <;> try (exfalso; omega)) | refine gdR rfl rfl (fun _ => ?_) (fun _ => ?_))
    | (show retPost _ _ _ _ _; first | refine finF true rfl rfl sc ?_ | refine finF false rfl rfl sc ?_ | refine finC false rfl rfl sc sc ?_ | refine finN rfl rfl sc ?_ | refine finL true rfl rfl sc rfl (LeR.cons rfl leL LeR.nil) ?_ | refine finE true rfl rfl sc ?_ | refine finE false rfl rfl sc ?_))
  rfl
theorem ref03_Mul (r t : R3) (hr : RatOk r 1000000) (ht : RatOk t 1000000) : Ret Tryz.prog 41 [rD r, rD t] (· = rD (rq (rv r * rv t))) := by
  have tr := ref03_Take r ⟨hr.wm, hr.wd, by have := hr.lm; omega, by have := hr.ld; omega⟩
  have tk := ref03_Take t ⟨ht.wm, ht.wd, by have := ht.lm; omega, by have := ht.ld; omega⟩
  have or := okQ_rv hr (by decide)
  have ot := okQ_rv ht (by decide)
  generalize rv r = x at *
  generalize rv t = y at *
  have dx := ref03_Den x (or.mono (by decide))
  have dy := ref03_Den y (ot.mono (by decide))
  obtain ⟨x1, x2⟩ := or
  obtain ⟨y1, y2⟩ := ot
  have m1 := ref02_MulZ x.num y.num (by omega) (by omega)
  have m3 := ref02_MulZ x.den y.den (by rw [Int.natAbs_natCast]; omega) (by rw [Int.natAbs_natCast]; omega)
  have l1 := ln_mul x.num.natAbs y.num.natAbs
  have l3 := ln_mul x.den y.den
  simp only [ln] at l1 l3
  have e1 : (x.num * y.num).natAbs = x.num.natAbs * y.num.natAbs := Int.natAbs_mul _ _
  have e3 : ((x.den : Int) * (y.den : Int)).natAbs = x.den * y.den := by rw [Int.natAbs_mul, Int.natAbs_natCast, Int.natAbs_natCast]
  have o := ref03_over (x.num * y.num) (x.den * y.den) (by have := x.den_nz; have := y.den_nz; simp; omega) (by rw [e1]; omega) (by rw [e3]; omega)
  rw [show Rat.divInt (x.num * y.num) ((x.den : Int) * y.den) = x * y by rw [Rat.mul_def', ← Rat.divInt_ofNat]; simp] at o
  refine ret_of_awp tab Tryz.func41 rfl rfl (Nat.le_of_ble_eq_true rfl) (fun w0 F0 => ?_)
  repeat' (first
    | (show awpL _ _ _ _ _; first | refine goL ?_ | refine cl 80 tt rfl rfl rfl (hr := tr) (k := ?_) | refine cl 80 tt rfl rfl rfl (hr := tk) (k := ?_) | refine cl 82 tt rfl rfl rfl (hr := dx) (k := ?_) | refine cl 82 tt rfl rfl rfl (hr := dy) (k := ?_) | refine cl 84 tt rfl rfl rfl (hr := m1) (k := ?_) | refine cl 84 tt rfl rfl rfl (hr := m3) (k := ?_) | refine cl 55 tt rfl rfl rfl (hr := o) (k := ?_) | (refine gdLD rfl rfl (fun _ => ?_) (fun _ => ?_) <;> try (exfalso; omega)) | (refine gdLN rfl rfl (fun _ => ?_) (fun _ => ?_) <;> try (exfalso; omega)) | refine gdL rfl rfl (fun _ => ?_) (fun _ => ?_))
    | (show awp _ _ _ _; first | refine goA ?_ | refine awp_reg 1 3 mixed (by kernel_rfl) (by kernel_rfl) ?_ | refine awp_reg 2 8 mixed (by kernel_rfl) (by kernel_rfl) ?_ | (refine awp_condD rfl (fun _ => ?_) (fun _ => ?_) <;> try (exfalso; omega)) | (refine awp_condN rfl (fun _ => ?_) (fun _ => ?_) <;> try (exfalso; omega)) | refine awp_cond rfl (fun _ => ?_) (fun _ => ?_))
    | (show andThen _ _ _ _; first | refine goN ?_)
    | (show inBlock _ _ _ _; first | refine goB ?_)
    | (show awpR _ _ _ _ _ _; first | refine goR ?_ | refine clR 80 tt rfl rfl rfl (hr := tr) (k := ?_) | refine clR 80 tt rfl rfl rfl (hr := tk) (k := ?_) | refine clR 82 tt rfl rfl rfl (hr := dx) (k := ?_) | refine clR 82 tt rfl rfl rfl (hr := dy) (k := ?_) | refine clR 84 tt rfl rfl rfl (hr := m1) (k := ?_) | refine clR 84 tt rfl rfl rfl (hr := m3) (k := ?_) | refine clR 55 tt rfl rfl rfl (hr := o) (k := ?_) | (refine gdRD rfl rfl (fun _ => ?_) (fun _ => ?_) <;> try (exfalso; omega)) | (refine gdRN rfl rfl (fun _ => ?_) (fun _ => ?_) <;> try (exfalso; omega)) | refine gdR rfl rfl (fun _ => ?_) (fun _ => ?_))
    | (show retPost _ _ _ _ _; first | refine finF true rfl rfl sc ?_ | refine finF false rfl rfl sc ?_ | refine finC false rfl rfl sc sc ?_ | refine finN rfl rfl sc ?_ | refine finL true rfl rfl sc rfl (LeR.cons rfl leL LeR.nil) ?_ | refine finE true rfl rfl sc ?_ | refine finE false rfl rfl sc ?_))
  rfl
theorem ref03_Quo (r t : R3) (hr : RatOk r 1000000) (ht : RatOk t 1000000) (h0 : rv t ≠ 0) : Ret Tryz.prog 126 [rD r, rD t] (· = rD (rq (rv r / rv t))) := by
  have tr := ref03_Take r ⟨hr.wm, hr.wd, by have := hr.lm; omega, by have := hr.ld; omega⟩
  have tk := ref03_Take t ⟨ht.wm, ht.wd, by have := ht.lm; omega, by have := ht.ld; omega⟩
  have or := okQ_rv hr (by decide)
  have ot := okQ_rv ht (by decide)
  generalize rv r = x at *
  generalize rv t = y at *
  have dx := ref03_Den x (or.mono (by decide))
  have dy := ref03_Den y (ot.mono (by decide))
  obtain ⟨x1, x2⟩ := or
  obtain ⟨y1, y2⟩ := ot
  have hy : y.num ≠ 0 := mt Rat.num_eq_zero.1 h0
  have m1 := ref02_MulZ x.num y.den (by omega) (by rw [Int.natAbs_natCast]; omega)
  have m3 := ref02_MulZ x.den y.num (by rw [Int.natAbs_natCast]; omega) (by omega)
  have l1 := ln_mul x.num.natAbs y.den
  have l3 := ln_mul x.den y.num.natAbs
  simp only [ln] at l1 l3
  have e1 : (x.num * (y.den : Int)).natAbs = x.num.natAbs * y.den := by rw [Int.natAbs_mul, Int.natAbs_natCast]
  have e3 : ((x.den : Int) * y.num).natAbs = x.den * y.num.natAbs := by rw [Int.natAbs_mul, Int.natAbs_natCast]
  have o := ref03_over (x.num * y.den) (x.den * y.num) (by have := x.den_nz; exact Int.mul_ne_zero (by omega) hy) (by rw [e1]; omega) (by rw [e3]; omega)
  rw [show Rat.divInt (x.num * y.den) ((x.den : Int) * y.num) = x / y by
    rw [Rat.div_def]
    conv => rhs; rw [← Rat.num_divInt_den x, ← Rat.num_divInt_den y]
    rw [Rat.inv_divInt, Rat.divInt_mul_divInt]] at o
  refine ret_of_awp tab Tryz.func126 rfl rfl (Nat.le_of_ble_eq_true rfl) (fun w0 F0 => ?_)
  repeat' (first
    | (show awpL _ _ _ _ _; first | refine goL ?_ | refine cl 80 tt rfl rfl rfl (hr := tr) (k := ?_) | refine cl 80 tt rfl rfl rfl (hr := tk) (k := ?_) | refine cl 82 tt rfl rfl rfl (hr := dx) (k := ?_) | refine cl 82 tt rfl rfl rfl (hr := dy) (k := ?_) | refine cl 84 tt rfl rfl rfl (hr := m1) (k := ?_) | refine cl 84 tt rfl rfl rfl (hr := m3) (k := ?_) | refine cl 55 tt rfl rfl rfl (hr := o) (k := ?_) | (refine gdLD rfl rfl (fun _ => ?_) (fun _ => ?_) <;> try (exfalso; omega)) | (refine gdLN rfl rfl (fun _ => ?_) (fun _ => ?_) <;> try (exfalso; omega)) | refine gdL rfl rfl (fun _ => ?_) (fun _ => ?_))
    | (show awp _ _ _ _; first | refine goA ?_ | refine awp_reg 1 3 mixed (by kernel_rfl) (by kernel_rfl) ?_ | refine awp_reg 2 9 mixed (by kernel_rfl) (by kernel_rfl) ?_ | (refine awp_condD rfl (fun _ => ?_) (fun _ => ?_) <;> try (exfalso; omega)) | (refine awp_condN rfl (fun _ => ?_) (fun _ => ?_) <;> try (exfalso; omega)) | refine awp_cond rfl (fun _ => ?_) (fun _ => ?_))
    | (show andThen _ _ _ _; first | refine goN ?_)
    | (show inBlock _ _ _ _; first | refine goB ?_)
    | (show awpR _ _ _ _ _ _; first | refine goR ?_ | refine clR 80 tt rfl rfl rfl (hr := tr) (k := ?_) | refine clR 80 tt rfl rfl rfl (hr := tk) (k := ?_) | refine clR 82 tt rfl rfl rfl (hr := dx) (k := ?_) | refine clR 82 tt rfl rfl rfl (hr := dy) (k := ?_) | refine clR 84 tt rfl rfl rfl (hr := m1) (k := ?_) | refine clR 84 tt rfl rfl rfl (hr := m3) (k := ?_) | refine clR 55 tt rfl rfl rfl (hr := o) (k := ?_) | (refine gdRD rfl rfl (fun _ => ?_) (fun _ => ?_) <;> try (exfalso; omega)) | (refine gdRN rfl rfl (fun _ => ?_) (fun _ => ?_) <;> try (exfalso; omega)) | refine gdR rfl rfl (fun _ => ?_) (fun _ => ?_))
    | (show retPost _ _ _ _ _; first | refine finF true rfl rfl sc ?_ | refine finF false rfl rfl sc ?_ | refine finC false rfl rfl sc sc ?_ | refine finN rfl rfl sc ?_ | refine finL true rfl rfl sc rfl (LeR.cons rfl leL LeR.nil) ?_ | refine finE true rfl rfl sc ?_ | refine finE false rfl rfl sc ?_))
  rfl
theorem ref03_Sign (r : R3) (hr : RatOk r 1000000) : Ret Tryz.prog 50 [rD r] (· = .int .i64 (rv r).num.sign) := by
  have tr := ref03_Take r ⟨hr.wm, hr.wd, by have := hr.lm; omega, by have := hr.ld; omega⟩
  have or := okQ_rv hr (by decide)
  generalize rv r = x at *
  have hs := ref02_SignZ x.num (by have := or.1; omega)
  refine ret_of_awp tab Tryz.func50 rfl rfl (Nat.le_of_ble_eq_true rfl) (fun w0 F0 => ?_)
  repeat' (first
    | (show awpL _ _ _ _ _; first | refine goL ?_ | refine cl 80 tt rfl rfl rfl (hr := tr) (k := ?_) | refine cl 89 tt rfl rfl rfl (hr := hs) (k := ?_) | (refine gdLD rfl rfl (fun _ => ?_) (fun _ => ?_) <;> try (exfalso; omega)) | (refine gdLN rfl rfl (fun _ => ?_) (fun _ => ?_) <;> try (exfalso; omega)) | refine gdL rfl rfl (fun _ => ?_) (fun _ => ?_))
    | (show awp _ _ _ _; first | refine goA ?_ | (refine awp_condD rfl (fun _ => ?_) (fun _ => ?_) <;> try (exfalso; omega)) | (refine awp_condN rfl (fun _ => ?_) (fun _ => ?_) <;> try (exfalso; omega)) | refine awp_cond rfl (fun _ => ?_) (fun _ => ?_))
    | (show andThen _ _ _ _; first | refine goN ?_)
    | (show inBlock _ _ _ _; first | refine goB ?_)
    | (show awpR _ _ _ _ _ _; first | refine goR ?_ | refine clR 80 tt rfl rfl rfl (hr := tr) (k := ?_) | refine clR 89 tt rfl rfl rfl (hr := hs) (k := ?_) | (refine gdRD rfl rfl (fun _ => ?_) (fun _ => ?_) <;> try (exfalso; omega)) | (refine gdRN rfl rfl (fun _ => ?_) (fun _ => ?_) <;> try (exfalso; omega)) | refine gdR rfl rfl (fun _ => ?_) (fun _ => ?_))
    | (show retPost _ _ _ _ _; first | refine finF true rfl rfl sc ?_ | refine finF false rfl rfl sc ?_ | refine finC false rfl rfl sc sc ?_ | refine finN rfl rfl sc ?_ | refine finL true rfl rfl sc rfl (LeR.cons rfl leL LeR.nil) ?_ | refine finE true rfl rfl sc ?_ | refine finE false rfl rfl sc ?_))
  rfl
theorem ref03_Neg (r : R3) (hr : RatOk r 1000000) : Ret Tryz.prog 85 [rD r] (· = rD (rq (-rv r))) := by
  have tr := ref03_Take r ⟨hr.wm, hr.wd, by have := hr.lm; omega, by have := hr.ld; omega⟩
  have or := okQ_rv hr (by decide)
  generalize rv r = x at *
  have hs := ref02_NegZ x.num (by have := or.1; omega)
  have e : rq (-x) = (decide (-x.num < 0), limbs (-x.num).natAbs, dL x.den) := rfl
  rw [e]
  refine ret_of_awp tab Tryz.func85 rfl rfl (Nat.le_of_ble_eq_true rfl) (fun w0 F0 => ?_)
  repeat' (first
    | (show awpL _ _ _ _ _; first | refine goL ?_ | refine cl 80 tt rfl rfl rfl (hr := tr) (k := ?_) | refine cl 92 tt rfl rfl rfl (hr := hs) (k := ?_) | (refine gdLD rfl rfl (fun _ => ?_) (fun _ => ?_) <;> try (exfalso; omega)) | (refine gdLN rfl rfl (fun _ => ?_) (fun _ => ?_) <;> try (exfalso; omega)) | refine gdL rfl rfl (fun _ => ?_) (fun _ => ?_))
    | (show awp _ _ _ _; first | refine goA ?_ | refine awp_reg 2 5 mixed (by kernel_rfl) (by kernel_rfl) ?_ | (refine awp_condD rfl (fun _ => ?_) (fun _ => ?_) <;> try (exfalso; omega)) | (refine awp_condN rfl (fun _ => ?_) (fun _ => ?_) <;> try (exfalso; omega)) | refine awp_cond rfl (fun _ => ?_) (fun _ => ?_))
    | (show andThen _ _ _ _; first | refine goN ?_)
    | (show inBlock _ _ _ _; first | refine goB ?_)
    | (show awpR _ _ _ _ _ _; first | refine goR ?_ | refine clR 80 tt rfl rfl rfl (hr := tr) (k := ?_) | refine clR 92 tt rfl rfl rfl (hr := hs) (k := ?_) | (refine gdRD rfl rfl (fun _ => ?_) (fun _ => ?_) <;> try (exfalso; omega)) | (refine gdRN rfl rfl (fun _ => ?_) (fun _ => ?_) <;> try (exfalso; omega)) | refine gdR rfl rfl (fun _ => ?_) (fun _ => ?_))
    | (show retPost _ _ _ _ _; first | refine finF true rfl rfl sc ?_ | refine finF false rfl rfl sc ?_ | refine finC false rfl rfl sc sc ?_ | refine finN rfl rfl sc ?_ | refine finL true rfl rfl sc rfl (LeR.cons rfl leL LeR.nil) ?_ | refine finE true rfl rfl sc ?_ | refine finE false rfl rfl sc ?_))
  rfl
theorem ok_rq {q : Rat} {k : Nat} (h : okQ k q) : RatOk (rq q) k := by
  refine ⟨(wf_rq q).1, (wf_rq q).2, h.1, ?_⟩
  show (dL q.den).length < k
  unfold dL; split
  · exact Nat.lt_of_le_of_lt (Nat.zero_le _) h.1
  · exact h.2
theorem ref03_AddQ (x y : Rat) (hx : okQ 1000000 x) (hy : okQ 1000000 y) : Ret Tryz.prog 56 [rD (rq x), rD (rq y)] (· = rD (rq (x + y))) := by
  have := ref03_Add (rq x) (rq y) (ok_rq hx) (ok_rq hy)
  rw [rv_rq, rv_rq] at this; exact this
theorem ref03_MulQ (x y : Rat) (hx : okQ 1000000 x) (hy : okQ 1000000 y) : Ret Tryz.prog 41 [rD (rq x), rD (rq y)] (· = rD (rq (x * y))) := by
  have := ref03_Mul (rq x) (rq y) (ok_rq hx) (ok_rq hy)
  rw [rv_rq, rv_rq] at this; exact this
theorem ref03_SignQ (x : Rat) (hx : okQ 1000000 x) : Ret Tryz.prog 50 [rD (rq x)] (· = .int .i64 x.num.sign) := by
  have := ref03_Sign (rq x) (ok_rq hx)
  rw [rv_rq] at this; exact this
theorem ref03_QuoQ (x y : Rat) (hx : okQ 1000000 x) (hy : okQ 1000000 y) (h0 : y ≠ 0) : Ret Tryz.prog 126 [rD (rq x), rD (rq y)] (· = rD (rq (x / y))) := by
  have := ref03_Quo (rq x) (rq y) (ok_rq hx) (ok_rq hy) (by rw [rv_rq]; exact h0)
  rw [rv_rq, rv_rq] at this; exact this
theorem ref03_NegQ (x : Rat) (hx : okQ 1000000 x) : Ret Tryz.prog 85 [rD (rq x)] (· = rD (rq (-x))) := by
  have := ref03_Neg (rq x) (ok_rq hx)
  rw [rv_rq] at this; exact this
end Go.Proofs.YtoppaphffnojdaaGreat

set_option linter.unusedVariables false
set_option linter.unusedSimpArgs false
namespace Go.Proofs.YtoppaphffnojdaaGreat
open Go.Vw
attribute [local irreducible] awp awpL awpR

theorem rational_one : Ret Tryz.prog 116 [] (· = u32s [1]) := by
  refine ret_of_awp tab Tryz.func116 rfl rfl (Nat.le_of_ble_eq_true rfl) (fun w0 F0 => ?_)
  repeat' (first
    | (show awpL _ _ _ _ _; first | refine goL ?_ | (refine gdLD rfl rfl (fun _ => ?_) (fun _ => ?_) <;> try (exfalso; omega)) | (refine gdLN rfl rfl (fun _ => ?_) (fun _ => ?_) <;> try (exfalso; omega)) | refine gdL rfl rfl (fun _ => ?_) (fun _ => ?_))
    | (show awp _ _ _ _; first | refine goA ?_ | (refine awp_condD rfl (fun _ => ?_) (fun _ => ?_) <;> try (exfalso; omega)) | (refine awp_condN rfl (fun _ => ?_) (fun _ => ?_) <;> try (exfalso; omega)) | refine awp_cond rfl (fun _ => ?_) (fun _ => ?_))
    | (show andThen _ _ _ _; first | refine goN ?_)
    | (show inBlock _ _ _ _; first | refine goB ?_)
    | (show awpR _ _ _ _ _ _; first | refine goR ?_ | (refine gdRD rfl rfl (fun _ => ?_) (fun _ => ?_) <;> try (exfalso; omega)) | (refine gdRN rfl rfl (fun _ => ?_) (fun _ => ?_) <;> try (exfalso; omega)) | refine gdR rfl rfl (fun _ => ?_) (fun _ => ?_))
    | (show retPost _ _ _ _ _; first | refine finF true rfl rfl sc ?_ | refine finF false rfl rfl sc ?_ | refine finC false rfl rfl sc sc ?_ | refine finN rfl rfl sc ?_ | refine finL true rfl rfl sc rfl (LeR.cons rfl leL LeR.nil) ?_ | refine finE true rfl rfl sc ?_ | refine finE false rfl rfl sc ?_))
  rfl
theorem nv_one : nv [1] = 1 := by decide
theorem natural_CompareOne (d : List Nat) (wd : WF d) (hl : d.length < 1000000000) : Ret Tryz.prog 118 [u32s d, u32s [1]] (· = .int .i64 (cmpN (nv d) 1)) := by
  have := natural_Compare d [1] wd (by intro x hx; simp at hx; subst hx; decide) hl (by decide)
  rw [nv_one] at this
  exact this
theorem rational_Valid (r : R3) (h : RatOk r 10000000) : Ret Tryz.prog 112 [rD r] (· = .bool (validR r)) := by
  obtain ⟨n, m, d⟩ := r
  obtain ⟨wm, wd, lm, ld⟩ := h
  simp only at wm wd lm ld
  have hi := integer_Valid n m (by omega)
  have hd := natural_Valid d (by omega)
  have h1 := rational_one
  have hc := natural_CompareOne d wd (by omega)
  unfold validR
  cases hvi : validI n m with
  | false =>
    rw [hvi] at hi
    refine ret_of_awp tab Tryz.func112 rfl rfl (Nat.le_of_ble_eq_true rfl) (fun w0 F0 => ?_)
    repeat' (first
      | (show awpL _ _ _ _ _; first | refine goL ?_ | refine cl 110 tt rfl rfl rfl (hr := hi) (k := ?_) | (refine gdLD rfl rfl (fun _ => ?_) (fun _ => ?_) <;> try (exfalso; omega)) | (refine gdLN rfl rfl (fun _ => ?_) (fun _ => ?_) <;> try (exfalso; omega)) | refine gdL rfl rfl (fun _ => ?_) (fun _ => ?_))
      | (show awp _ _ _ _; first | refine goA ?_ | refine awp_reg 5 9 mixed (by kernel_rfl) (by kernel_rfl) ?_ | (refine awp_condD rfl (fun _ => ?_) (fun _ => ?_) <;> try (exfalso; omega)) | (refine awp_condN rfl (fun _ => ?_) (fun _ => ?_) <;> try (exfalso; omega)) | refine awp_cond rfl (fun _ => ?_) (fun _ => ?_))
      | (show andThen _ _ _ _; first | refine goN ?_)
      | (show inBlock _ _ _ _; first | refine goB ?_)
      | (show awpR _ _ _ _ _ _; first | refine goR ?_ | refine clR 110 tt rfl rfl rfl (hr := hi) (k := ?_) | (refine gdRD rfl rfl (fun _ => ?_) (fun _ => ?_) <;> try (exfalso; omega)) | (refine gdRN rfl rfl (fun _ => ?_) (fun _ => ?_) <;> try (exfalso; omega)) | refine gdR rfl rfl (fun _ => ?_) (fun _ => ?_))
      | (show retPost _ _ _ _ _; first | refine finF true rfl rfl sc ?_ | refine finF false rfl rfl sc ?_ | refine finC false rfl rfl sc sc ?_ | refine finN rfl rfl sc ?_ | refine finL true rfl rfl sc rfl (LeR.cons rfl leL LeR.nil) ?_ | refine finE true rfl rfl sc ?_ | refine finE false rfl rfl sc ?_))
    rfl
  | true =>
    rw [hvi] at hi
    cases hvd : valid d with
    | false =>
      rw [hvd] at hd
      refine ret_of_awp tab Tryz.func112 rfl rfl (Nat.le_of_ble_eq_true rfl) (fun w0 F0 => ?_)
      repeat' (first
        | (show awpL _ _ _ _ _; first | refine goL ?_ | refine cl 110 tt rfl rfl rfl (hr := hi) (k := ?_) | refine cl 140 tt rfl rfl rfl (hr := hd) (k := ?_) | (refine gdLD rfl rfl (fun _ => ?_) (fun _ => ?_) <;> try (exfalso; omega)) | (refine gdLN rfl rfl (fun _ => ?_) (fun _ => ?_) <;> try (exfalso; omega)) | refine gdL rfl rfl (fun _ => ?_) (fun _ => ?_))
        | (show awp _ _ _ _; first | refine goA ?_ | refine awp_reg 5 9 mixed (by kernel_rfl) (by kernel_rfl) ?_ | (refine awp_condD rfl (fun _ => ?_) (fun _ => ?_) <;> try (exfalso; omega)) | (refine awp_condN rfl (fun _ => ?_) (fun _ => ?_) <;> try (exfalso; omega)) | refine awp_cond rfl (fun _ => ?_) (fun _ => ?_))
        | (show andThen _ _ _ _; first | refine goN ?_)
        | (show inBlock _ _ _ _; first | refine goB ?_)
        | (show awpR _ _ _ _ _ _; first | refine goR ?_ | refine clR 110 tt rfl rfl rfl (hr := hi) (k := ?_) | refine clR 140 tt rfl rfl rfl (hr := hd) (k := ?_) | (refine gdRD rfl rfl (fun _ => ?_) (fun _ => ?_) <;> try (exfalso; omega)) | (refine gdRN rfl rfl (fun _ => ?_) (fun _ => ?_) <;> try (exfalso; omega)) | refine gdR rfl rfl (fun _ => ?_) (fun _ => ?_))
        | (show retPost _ _ _ _ _; first | refine finF true rfl rfl sc ?_ | refine finF false rfl rfl sc ?_ | refine finC false rfl rfl sc sc ?_ | refine finN rfl rfl sc ?_ | refine finL true rfl rfl sc rfl (LeR.cons rfl leL LeR.nil) ?_ | refine finE true rfl rfl sc ?_ | refine finE false rfl rfl sc ?_))
      rfl
    | true =>
      rw [hvd] at hd
      have hm : valid m = true := by unfold validI at hvi; simp at hvi; exact hvi.1
      have em := limbs_nv wm hm
      have ed := limbs_nv wd hvd
      have hg := natural_GcdN (nv m) (nv d) (by rw [em]; exact lm) (by rw [ed]; exact ld)
      have lg : (limbs (Nat.gcd (nv m) (nv d))).length < 1000000000 := by
        by_cases h0 : nv m = 0
        · rw [h0, Nat.gcd_zero_left, ed]; omega
        · have := limbs_len_mono (Nat.gcd_le_left (nv d) (Nat.pos_of_ne_zero h0)); rw [em] at this; omega
      have hc2 := natural_CompareOne (limbs (Nat.gcd (nv m) (nv d))) (wf_limbs _) lg
      rw [nv_limbs] at hc2
      rw [em, ed] at hg
      have z1 := cmpN_zero (nv d) 1
      have z2 := cmpN_zero (Nat.gcd (nv m) (nv d)) 1
      have e1 : d = [1] ↔ nv d = 1 := ⟨fun e => by rw [e]; exact nv_one, fun e => by rw [← ed, e, limbs_one]⟩
      have e2 : limbs (Nat.gcd (nv m) (nv d)) = [1] ↔ Nat.gcd (nv m) (nv d) = 1 := ⟨fun e => limbs_inj (e.trans limbs_one.symm), fun e => by rw [e, limbs_one]⟩
      have e3 : d = [] ↔ d.length = 0 := List.length_eq_zero_iff.symm
      have e4 : m = [] ↔ m.length = 0 := List.length_eq_zero_iff.symm
      rw [show decide (d = [1]) = decide (cmpN (nv d) 1 = 0) from decide_eq_decide.2 (e1.trans z1.symm), show decide (d = []) = decide (d.length = 0) from decide_eq_decide.2 e3, show decide (limbs (Nat.gcd (nv m) (nv d)) = [1]) = decide (cmpN (Nat.gcd (nv m) (nv d)) 1 = 0) from decide_eq_decide.2 (e2.trans z2.symm), show decide (m ≠ []) = decide (m.length ≠ 0) from decide_eq_decide.2 (not_congr e4)]
      have e5 : d.length = 0 → cmpN (nv d) 1 ≠ 0 := fun h => by
        have : nv d = 0 := by rw [e3.2 h]; rfl
        rw [ne_eq, z1]; omega
      clear e1 e2 e3 e4 em ed z1 z2
      generalize cmpN (nv d) 1 = c1 at *
      generalize cmpN (Nat.gcd (nv m) (nv d)) 1 = c2 at *
      refine ret_of_awp tab Tryz.func112 rfl rfl (Nat.le_of_ble_eq_true rfl) (fun w0 F0 => ?_)
      repeat' (first
        | (show awpL _ _ _ _ _; first | refine goL ?_ | refine cl 110 tt rfl rfl rfl (hr := hi) (k := ?_) | refine cl 140 tt rfl rfl rfl (hr := hd) (k := ?_) | refine cl 116 tt rfl rfl rfl (hr := h1) (k := ?_) | refine cl 118 tt rfl rfl rfl (hr := hc) (k := ?_) | refine cl 117 tt rfl rfl rfl (hr := hg) (k := ?_) | refine cl 118 tt rfl rfl rfl (hr := hc2) (k := ?_) | (refine gdLD rfl rfl (fun _ => ?_) (fun _ => ?_) <;> try (exfalso; omega)) | (refine gdLN rfl rfl (fun _ => ?_) (fun _ => ?_) <;> try (exfalso; omega)) | refine gdL rfl rfl (fun _ => ?_) (fun _ => ?_))
        | (show awp _ _ _ _; first | refine goA ?_ | refine awp_reg 5 9 mixed (by kernel_rfl) (by kernel_rfl) ?_ | (refine awp_condD rfl (fun _ => ?_) (fun _ => ?_) <;> try (exfalso; omega)) | (refine awp_condN rfl (fun _ => ?_) (fun _ => ?_) <;> try (exfalso; omega)) | refine awp_cond rfl (fun _ => ?_) (fun _ => ?_))
        | (show andThen _ _ _ _; first | refine goN ?_)
        | (show inBlock _ _ _ _; first | refine goB ?_)
        | (show awpR _ _ _ _ _ _; first | refine goR ?_ | refine clR 110 tt rfl rfl rfl (hr := hi) (k := ?_) | refine clR 140 tt rfl rfl rfl (hr := hd) (k := ?_) | refine clR 116 tt rfl rfl rfl (hr := h1) (k := ?_) | refine clR 118 tt rfl rfl rfl (hr := hc) (k := ?_) | refine clR 117 tt rfl rfl rfl (hr := hg) (k := ?_) | refine clR 118 tt rfl rfl rfl (hr := hc2) (k := ?_) | (refine gdRD rfl rfl (fun _ => ?_) (fun _ => ?_) <;> try (exfalso; omega)) | (refine gdRN rfl rfl (fun _ => ?_) (fun _ => ?_) <;> try (exfalso; omega)) | refine gdR rfl rfl (fun _ => ?_) (fun _ => ?_))
        | (show retPost _ _ _ _ _; first | refine finF true rfl rfl sc ?_ | refine finF false rfl rfl sc ?_ | refine finC false rfl rfl sc sc ?_ | refine finN rfl rfl sc ?_ | refine finL true rfl rfl sc rfl (LeR.cons rfl leL LeR.nil) ?_ | refine finE true rfl rfl sc ?_ | refine finE false rfl rfl sc ?_))
      · rename_i x
        have x : d.length = 0 := Int.ofNat_eq_zero.1 x
        simp [x, e5 x]
      · rename_i x y
        have x := mt Int.ofNat_eq_zero.2 x
        have y := Int.ofNat_eq_zero.1 y
        simp [show ¬ d.length = 0 from x, show m.length = 0 from y]
      · rename_i x y z
        simp [z]
      · rename_i x y z
        have x := mt Int.ofNat_eq_zero.2 x
        have y := mt Int.ofNat_eq_zero.2 y
        simp [show ¬ d.length = 0 from x, show ¬ m.length = 0 from y, z]
theorem rational_value (r : R3) (h : RatOk r 10000000) : Ret Tryz.prog 71 [rD r] (· = rD (rq (rv r))) := by
  have hv := rational_Valid r h
  have e := rq_rv (r := r)
  have e0 := rv_invalid (r := r)
  cases hr : validR r with
  | false =>
    rw [hr] at hv
    rw [e0 hr, rq_zero]
    refine ret_of_awp tab Tryz.func71 rfl rfl (Nat.le_of_ble_eq_true rfl) (fun w0 F0 => ?_)
    repeat' (first
      | (show awpL _ _ _ _ _; first | refine goL ?_ | refine cl 112 tt rfl rfl rfl (hr := hv) (k := ?_) | (refine gdLD rfl rfl (fun _ => ?_) (fun _ => ?_) <;> try (exfalso; omega)) | (refine gdLN rfl rfl (fun _ => ?_) (fun _ => ?_) <;> try (exfalso; omega)) | refine gdL rfl rfl (fun _ => ?_) (fun _ => ?_))
      | (show awp _ _ _ _; first | refine goA ?_ | (refine awp_condD rfl (fun _ => ?_) (fun _ => ?_) <;> try (exfalso; omega)) | (refine awp_condN rfl (fun _ => ?_) (fun _ => ?_) <;> try (exfalso; omega)) | refine awp_cond rfl (fun _ => ?_) (fun _ => ?_))
      | (show andThen _ _ _ _; first | refine goN ?_)
      | (show inBlock _ _ _ _; first | refine goB ?_)
      | (show awpR _ _ _ _ _ _; first | refine goR ?_ | refine clR 112 tt rfl rfl rfl (hr := hv) (k := ?_) | (refine gdRD rfl rfl (fun _ => ?_) (fun _ => ?_) <;> try (exfalso; omega)) | (refine gdRN rfl rfl (fun _ => ?_) (fun _ => ?_) <;> try (exfalso; omega)) | refine gdR rfl rfl (fun _ => ?_) (fun _ => ?_))
      | (show retPost _ _ _ _ _; first | refine finF true rfl rfl sc ?_ | refine finF false rfl rfl sc ?_ | refine finC false rfl rfl sc sc ?_ | refine finN rfl rfl sc ?_ | refine finL true rfl rfl sc rfl (LeR.cons rfl leL LeR.nil) ?_ | refine finA true rfl rfl sc ?_ | refine finA false rfl rfl sc ?_ | refine finE true rfl rfl sc ?_ | refine finE false rfl rfl sc ?_))
    exact leL
  | true =>
    rw [hr] at hv
    rw [e hr h.wm h.wd]
    refine ret_of_awp tab Tryz.func71 rfl rfl (Nat.le_of_ble_eq_true rfl) (fun w0 F0 => ?_)
    repeat' (first
      | (show awpL _ _ _ _ _; first | refine goL ?_ | refine cl 112 tt rfl rfl rfl (hr := hv) (k := ?_) | (refine gdLD rfl rfl (fun _ => ?_) (fun _ => ?_) <;> try (exfalso; omega)) | (refine gdLN rfl rfl (fun _ => ?_) (fun _ => ?_) <;> try (exfalso; omega)) | refine gdL rfl rfl (fun _ => ?_) (fun _ => ?_))
      | (show awp _ _ _ _; first | refine goA ?_ | (refine awp_condD rfl (fun _ => ?_) (fun _ => ?_) <;> try (exfalso; omega)) | (refine awp_condN rfl (fun _ => ?_) (fun _ => ?_) <;> try (exfalso; omega)) | refine awp_cond rfl (fun _ => ?_) (fun _ => ?_))
      | (show andThen _ _ _ _; first | refine goN ?_)
      | (show inBlock _ _ _ _; first | refine goB ?_)
      | (show awpR _ _ _ _ _ _; first | refine goR ?_ | refine clR 112 tt rfl rfl rfl (hr := hv) (k := ?_) | (refine gdRD rfl rfl (fun _ => ?_) (fun _ => ?_) <;> try (exfalso; omega)) | (refine gdRN rfl rfl (fun _ => ?_) (fun _ => ?_) <;> try (exfalso; omega)) | refine gdR rfl rfl (fun _ => ?_) (fun _ => ?_))
      | (show retPost _ _ _ _ _; first | refine finF true rfl rfl sc ?_ | refine finF false rfl rfl sc ?_ | refine finC false rfl rfl sc sc ?_ | refine finN rfl rfl sc ?_ | refine finL true rfl rfl sc rfl (LeR.cons rfl leL LeR.nil) ?_ | refine finE true rfl rfl sc ?_ | refine finE false rfl rfl sc ?_))
    rfl
theorem rational_valueQ (q : Rat) (h : okQ 10000000 q) : Ret Tryz.prog 71 [rD (rq q)] (· = rD (rq q)) := by
  have := rational_value (rq q) (ok_rq h)
  rw [rv_rq] at this
  exact this
theorem rational_den (q : Rat) (h : okQ 10000000 q) : Ret Tryz.prog 73 [rD (rq q)] (· = u32s (limbs q.den)) := by
  have h1 := rational_one
  by_cases hq : q.den = 1
  · have e : rq q = (decide (q.num < 0), limbs q.num.natAbs, []) := by rw [rq, hq]; rfl
    rw [e, hq, limbs_one]
    refine ret_of_awp tab Tryz.func73 rfl rfl (Nat.le_of_ble_eq_true rfl) (fun w0 F0 => ?_)
    repeat' (first
      | (show awpL _ _ _ _ _; first | refine goL ?_ | refine cl 116 tt rfl rfl rfl (hr := h1) (k := ?_) | (refine gdLD rfl rfl (fun _ => ?_) (fun _ => ?_) <;> try (exfalso; omega)) | (refine gdLN rfl rfl (fun _ => ?_) (fun _ => ?_) <;> try (exfalso; omega)) | refine gdL rfl rfl (fun _ => ?_) (fun _ => ?_))
      | (show awp _ _ _ _; first | refine goA ?_ | (refine awp_condD rfl (fun _ => ?_) (fun _ => ?_) <;> try (exfalso; omega)) | (refine awp_condN rfl (fun _ => ?_) (fun _ => ?_) <;> try (exfalso; omega)) | refine awp_cond rfl (fun _ => ?_) (fun _ => ?_))
      | (show andThen _ _ _ _; first | refine goN ?_)
      | (show inBlock _ _ _ _; first | refine goB ?_)
      | (show awpR _ _ _ _ _ _; first | refine goR ?_ | refine clR 116 tt rfl rfl rfl (hr := h1) (k := ?_) | (refine gdRD rfl rfl (fun _ => ?_) (fun _ => ?_) <;> try (exfalso; omega)) | (refine gdRN rfl rfl (fun _ => ?_) (fun _ => ?_) <;> try (exfalso; omega)) | refine gdR rfl rfl (fun _ => ?_) (fun _ => ?_))
      | (show retPost _ _ _ _ _; first | refine finF true rfl rfl sc ?_ | refine finF false rfl rfl sc ?_ | refine finC false rfl rfl sc sc ?_ | refine finN rfl rfl sc ?_ | refine finL true rfl rfl sc rfl (LeR.cons rfl leL LeR.nil) ?_ | refine finE true rfl rfl sc ?_ | refine finE false rfl rfl sc ?_))
    rfl
  · have e : rq q = (decide (q.num < 0), limbs q.num.natAbs, limbs q.den) := by rw [rq, dL, if_neg hq]
    have l0 : (limbs q.den).length ≠ 0 := fun e => q.den_nz (limbs_eq_nil.1 (List.length_eq_zero_iff.1 e))
    rw [e]
    show Ret _ _ [.agg [.bool (decide (q.num < 0)), u32s (limbs q.num.natAbs), u32s (limbs q.den)]] _
    refine ret_of_awp tab Tryz.func73 rfl rfl (Nat.le_of_ble_eq_true rfl) (fun w0 F0 => ?_)
    repeat' (first
      | (show awpL _ _ _ _ _; first | refine goL ?_ | (refine gdLD rfl rfl (fun _ => ?_) (fun _ => ?_) <;> try (exfalso; omega)) | (refine gdLN rfl rfl (fun _ => ?_) (fun _ => ?_) <;> try (exfalso; omega)) | refine gdL rfl rfl (fun _ => ?_) (fun _ => ?_))
      | (show awp _ _ _ _; first | refine goA ?_ | (refine awp_condD rfl (fun _ => ?_) (fun _ => ?_) <;> try (exfalso; omega)) | (refine awp_condN rfl (fun _ => ?_) (fun _ => ?_) <;> try (exfalso; omega)) | refine awp_cond rfl (fun _ => ?_) (fun _ => ?_))
      | (show andThen _ _ _ _; first | refine goN ?_)
      | (show inBlock _ _ _ _; first | refine goB ?_)
      | (show awpR _ _ _ _ _ _; first | refine goR ?_ | (refine gdRD rfl rfl (fun _ => ?_) (fun _ => ?_) <;> try (exfalso; omega)) | (refine gdRN rfl rfl (fun _ => ?_) (fun _ => ?_) <;> try (exfalso; omega)) | refine gdR rfl rfl (fun _ => ?_) (fun _ => ?_))
      | (show retPost _ _ _ _ _; first | refine finF true rfl rfl sc ?_ | refine finF false rfl rfl sc ?_ | refine finC false rfl rfl sc sc ?_ | refine finN rfl rfl sc ?_ | refine finL true rfl rfl sc rfl (LeR.cons rfl leL LeR.nil) ?_ | refine finE true rfl rfl sc ?_ | refine finE false rfl rfl sc ?_))
    rfl
theorem lowest_parts (z : Int) (d : Nat) (hd : d ≠ 0) : rq (Rat.divInt z d) = (decide (z < 0), limbs (z.natAbs / Nat.gcd z.natAbs d), dL (d / Nat.gcd z.natAbs d)) := by
  have hg : 0 < Nat.gcd z.natAbs d := Nat.gcd_pos_of_pos_right _ (by omega)
  rw [divInt_parts z d (by omega)]
  have e1 : (Int.gcd z d : Nat) = Nat.gcd z.natAbs d := by unfold Int.gcd; rw [Int.natAbs_natCast]
  rw [e1]
  generalize hgg : Nat.gcd z.natAbs d = g at *
  have hdv : (g : Int) ∣ z := by rw [← Int.natAbs_dvd_natAbs, Int.natAbs_natCast, ← hgg]; exact Nat.gcd_dvd_left _ _
  obtain ⟨k, rfl⟩ := hdv
  have hgi : (0 : Int) < g := by omega
  rw [Int.mul_ediv_cancel_left _ (by omega), Int.natAbs_mul, Int.natAbs_natCast, Nat.mul_div_cancel_left _ hg]
  have e2 : ((d : Int) / (g : Int)).natAbs = d / g := by rw [← Int.natCast_ediv, Int.natAbs_natCast]
  rw [e2]
  congr 1
  refine decide_eq_decide.2 ?_
  constructor
  · intro h; exact Int.mul_neg_of_pos_of_neg hgi h
  · intro h
    exact Classical.byContradiction fun hn => by
      have := Int.mul_nonneg (Int.le_of_lt hgi) (show 0 ≤ k by omega)
      omega
theorem rational_lowest (z : Int) (d : Nat) (hd : d ≠ 0) (lz : (limbs z.natAbs).length < 10000000) (ld : (limbs d).length < 10000000) : Ret Tryz.prog 75 [zD z, u32s (limbs d)] (· = rD (rq (Rat.divInt z d))) := by
  have h1 := rational_one
  have hgp : 0 < Nat.gcd z.natAbs d := Nat.gcd_pos_of_pos_right _ (by omega)
  have hg := natural_GcdN z.natAbs d lz ld
  have hgl := len_bound (Nat.le_of_dvd (by omega) (Nat.gcd_dvd_right z.natAbs d)) ld
  rw [lowest_parts z d hd]
  show Ret _ _ _ (· = .agg [.bool (decide (z < 0)), u32s (limbs (z.natAbs / Nat.gcd z.natAbs d)), u32s (dL (d / Nat.gcd z.natAbs d))])
  have h2 := natural_DivN z.natAbs (Nat.gcd z.natAbs d) (by omega) (by omega) (by omega)
  have h3 := natural_DivN d (Nat.gcd z.natAbs d) (by omega) (by omega) (by omega)
  have hq := len_bound (Nat.div_le_self d (Nat.gcd z.natAbs d)) ld
  have hc := natural_CompareOne (limbs (d / Nat.gcd z.natAbs d)) (wf_limbs _) (by omega)
  rw [nv_limbs] at hc
  have hz := cmpN_zero (d / Nat.gcd z.natAbs d) 1
  clear hgp
  generalize z.natAbs / Nat.gcd z.natAbs d = p at *
  generalize d / Nat.gcd z.natAbs d = q at *
  generalize Nat.gcd z.natAbs d = g at *
  unfold dL
  by_cases hq1 : q = 1
  · rw [if_pos hq1]
    rw [hz.2 hq1] at hc
    refine ret_of_awp tab Tryz.func75 rfl rfl (Nat.le_of_ble_eq_true rfl) (fun w0 F0 => ?_)
    repeat' (first
      | (show awpL _ _ _ _ _; first | refine goL ?_ | refine cl 116 tt rfl rfl rfl (hr := h1) (k := ?_) | refine cl 117 tt rfl rfl rfl (hr := hg) (k := ?_) | refine cl 113 tt rfl rfl rfl (hr := h2) (k := ?_) | refine cl 113 tt rfl rfl rfl (hr := h3) (k := ?_) | refine cl 118 tt rfl rfl rfl (hr := hc) (k := ?_) | (refine gdLD rfl rfl (fun _ => ?_) (fun _ => ?_) <;> try (exfalso; omega)) | (refine gdLN rfl rfl (fun _ => ?_) (fun _ => ?_) <;> try (exfalso; omega)) | refine gdL rfl rfl (fun _ => ?_) (fun _ => ?_))
      | (show awp _ _ _ _; first | refine goA ?_ | (refine awp_condD rfl (fun _ => ?_) (fun _ => ?_) <;> try (exfalso; omega)) | (refine awp_condN rfl (fun _ => ?_) (fun _ => ?_) <;> try (exfalso; omega)) | refine awp_cond rfl (fun _ => ?_) (fun _ => ?_))
      | (show andThen _ _ _ _; first | refine goN ?_)
      | (show inBlock _ _ _ _; first | refine goB ?_)
      | (show awpR _ _ _ _ _ _; first | refine goR ?_ | refine clR 116 tt rfl rfl rfl (hr := h1) (k := ?_) | refine clR 117 tt rfl rfl rfl (hr := hg) (k := ?_) | refine clR 113 tt rfl rfl rfl (hr := h2) (k := ?_) | refine clR 113 tt rfl rfl rfl (hr := h3) (k := ?_) | refine clR 118 tt rfl rfl rfl (hr := hc) (k := ?_) | (refine gdRD rfl rfl (fun _ => ?_) (fun _ => ?_) <;> try (exfalso; omega)) | (refine gdRN rfl rfl (fun _ => ?_) (fun _ => ?_) <;> try (exfalso; omega)) | refine gdR rfl rfl (fun _ => ?_) (fun _ => ?_))
      | (show retPost _ _ _ _ _; first | refine finF true rfl rfl sc ?_ | refine finF false rfl rfl sc ?_ | refine finC false rfl rfl sc sc ?_ | refine finN rfl rfl sc ?_ | refine finL true rfl rfl sc rfl (LeR.cons rfl leL LeR.nil) ?_ | refine finA true rfl rfl sc ?_ | refine finA false rfl rfl sc ?_ | refine finE true rfl rfl sc ?_ | refine finE false rfl rfl sc ?_))
    exact leL
  · rw [if_neg hq1]
    have hcz := mt hz.1 hq1
    generalize cmpN q 1 = c at *
    refine ret_of_awp tab Tryz.func75 rfl rfl (Nat.le_of_ble_eq_true rfl) (fun w0 F0 => ?_)
    repeat' (first
      | (show awpL _ _ _ _ _; first | refine goL ?_ | refine cl 116 tt rfl rfl rfl (hr := h1) (k := ?_) | refine cl 117 tt rfl rfl rfl (hr := hg) (k := ?_) | refine cl 113 tt rfl rfl rfl (hr := h2) (k := ?_) | refine cl 113 tt rfl rfl rfl (hr := h3) (k := ?_) | refine cl 118 tt rfl rfl rfl (hr := hc) (k := ?_) | (refine gdLD rfl rfl (fun _ => ?_) (fun _ => ?_) <;> try (exfalso; omega)) | (refine gdLN rfl rfl (fun _ => ?_) (fun _ => ?_) <;> try (exfalso; omega)) | refine gdL rfl rfl (fun _ => ?_) (fun _ => ?_))
      | (show awp _ _ _ _; first | refine goA ?_ | (refine awp_condD rfl (fun _ => ?_) (fun _ => ?_) <;> try (exfalso; omega)) | (refine awp_condN rfl (fun _ => ?_) (fun _ => ?_) <;> try (exfalso; omega)) | refine awp_cond rfl (fun _ => ?_) (fun _ => ?_))
      | (show andThen _ _ _ _; first | refine goN ?_)
      | (show inBlock _ _ _ _; first | refine goB ?_)
      | (show awpR _ _ _ _ _ _; first | refine goR ?_ | refine clR 116 tt rfl rfl rfl (hr := h1) (k := ?_) | refine clR 117 tt rfl rfl rfl (hr := hg) (k := ?_) | refine clR 113 tt rfl rfl rfl (hr := h2) (k := ?_) | refine clR 113 tt rfl rfl rfl (hr := h3) (k := ?_) | refine clR 118 tt rfl rfl rfl (hr := hc) (k := ?_) | (refine gdRD rfl rfl (fun _ => ?_) (fun _ => ?_) <;> try (exfalso; omega)) | (refine gdRN rfl rfl (fun _ => ?_) (fun _ => ?_) <;> try (exfalso; omega)) | refine gdR rfl rfl (fun _ => ?_) (fun _ => ?_))
      | (show retPost _ _ _ _ _; first | refine finF true rfl rfl sc ?_ | refine finF false rfl rfl sc ?_ | refine finC false rfl rfl sc sc ?_ | refine finN rfl rfl sc ?_ | refine finL true rfl rfl sc rfl (LeR.cons rfl leL LeR.nil) ?_ | refine finE true rfl rfl sc ?_ | refine finE false rfl rfl sc ?_))
    rfl
end Go.Proofs.YtoppaphffnojdaaGreat

/-
  Rational numbers: comparison, whole numbers, bounds. Conditions: as each says.
-/
set_option linter.unusedVariables false
set_option linter.unusedSimpArgs false
namespace Go.Vw
theorem RatOk.up {r : R3} {k l : Nat} (h : RatOk r k) (hl : k ≤ l) : RatOk r l := ⟨h.wm, h.wd, Nat.lt_of_lt_of_le h.lm hl, Nat.lt_of_lt_of_le h.ld hl⟩
/-- -1, 0 or 1. -/
def cmpQ (x y : Rat) : Int := if x < y then -1 else if y < x then 1 else 0
theorem cmpQ_eq (x y : Rat) : cmpQ x y = if x.num * y.den < y.num * x.den then -1 else if y.num * x.den < x.num * y.den then 1 else 0 := by
  unfold cmpQ
  simp only [Rat.lt_iff]
theorem okQ.dl {q : Rat} {k : Nat} (h : okQ k q) : (dL q.den).length < k := by
  unfold dL; split
  · exact Nat.lt_of_le_of_lt (Nat.zero_le _) h.1
  · exact h.2
theorem dL_nil {d : Nat} (h0 : d ≠ 0) : (dL d).length = 0 ↔ d = 1 := by
  unfold dL
  split
  · rename_i h; simp [h]
  · rename_i h
    simp only [h, iff_false]
    exact fun e => h0 (limbs_eq_nil.1 (List.length_eq_zero_iff.1 e))
theorem int_of_den {x : Rat} (h : x.den = 1) : x = (x.num : Rat) := by
  apply Rat.ext
  · rfl
  · rw [h]; rfl
theorem divInt_abs (a b : Int) : Rat.divInt (if b < 0 then -a else a) (b.natAbs : Int) = Rat.divInt a b := by
  split
  · rename_i h
    rw [← Rat.neg_divInt_neg, Int.neg_neg]
    congr 1; omega
  · congr 1; omega
theorem divInt_div (x y : Rat) : Rat.divInt (x.num * y.den) (y.num * x.den) = x / y := by
  rw [Rat.div_def]
  conv => rhs; rw [← Rat.num_divInt_den x, ← Rat.num_divInt_den y]
  rw [Rat.inv_divInt, Rat.divInt_mul_divInt, Int.mul_comm y.num]
end Go.Vw
