/-
  Contracts of functions of the program, and the layer that they are walked with: Ints R04 Rats R05 C03 VP N02 NatsC VS. Conditions: as each says.
-/
import Derived.Test.YtlphlodailailaaGreatA04
/-
  Integers and rational numbers as the program holds them. Conditions: none.
-/
namespace Go.Vw

def intC (neg : Bool) (mag : List Nat) : D := .agg [.bool neg, u32s mag]
def zD (z : Int) : D := intC (decide (z < 0)) (limbs z.natAbs)
def validI (neg : Bool) (mag : List Nat) : Bool := valid mag && !(neg && decide (mag.length = 0))
def iv' (neg : Bool) (mag : List Nat) : Int := if validI neg mag then (if neg then -(val mag : Int) else val mag) else 0

theorem validI_z (z : Int) : validI (decide (z < 0)) (limbs z.natAbs) = true := by
  unfold validI
  rw [valid_limbs, Bool.true_and, Bool.not_eq_true', Bool.and_eq_false_iff]
  by_cases h : z < 0
  · right
    have h0 : z.natAbs ≠ 0 := by omega
    exact decide_eq_false (mt (fun e => limbs_eq_nil.1 (List.length_eq_zero_iff.1 e)) h0)
  · left; exact decide_eq_false h
theorem iv'_z (z : Int) : iv' (decide (z < 0)) (limbs z.natAbs) = z := by
  unfold iv'
  rw [if_pos (validI_z z), val_limbs]
  by_cases h : z < 0
  · simp [h]; omega
  · simp [h]; omega
theorem intC_valid {neg : Bool} {mag : List Nat} (h : WF mag) (hv : validI neg mag = true) : intC neg mag = zD (iv' neg mag) := by
  unfold iv' zD
  rw [if_pos hv]
  unfold validI at hv
  rw [Bool.and_eq_true] at hv
  obtain ⟨h1, h2⟩ := hv
  have hl := limbs_val h h1
  cases neg with
  | true =>
    simp at h2
    have h0 : val mag ≠ 0 := fun e => h2 (by rw [← hl, e, limbs_zero])
    have e1 : (-(val mag : Int)).natAbs = val mag := by omega
    simp only [if_true]
    rw [e1, hl, decide_eq_true (by omega)]
  | false =>
    have e1 : ((val mag : Int)).natAbs = val mag := by omega
    simp only [Bool.false_eq_true, if_false]
    rw [e1, hl, decide_eq_false (by omega)]
theorem zD_zero : zD 0 = .agg [.bool false, u32s []] := by
  show intC _ (limbs 0) = _
  rw [limbs_zero]; rfl
theorem iv'_abs (neg : Bool) (mag : List Nat) : (iv' neg mag).natAbs = if validI neg mag then val mag else 0 := by
  unfold iv'; split
  · cases neg <;> simp
  · rfl
theorem iv'_len {neg : Bool} {mag : List Nat} (h : WF mag) : (limbs (iv' neg mag).natAbs).length ≤ mag.length := by
  rw [iv'_abs]; split
  · exact length_limbs_le (val_lt h)
  · rw [limbs_zero]; simp
theorem signed_z (neg : Bool) (n : Nat) : D.agg [.bool (neg && decide (0 < (limbs n).length)), u32s (limbs n)] = zD (if neg then -(n : Int) else n) := by
  unfold zD intC
  cases neg with
  | true =>
    simp only [if_true, Bool.true_and, Int.natAbs_neg, Int.natAbs_natCast]
    congr 3
    by_cases h : n = 0
    · subst h; simp [limbs_zero]
    · have := List.length_pos_iff.2 (mt limbs_eq_nil.1 h)
      rw [decide_eq_decide]; omega
  | false =>
    have : ¬ ((n : Int) < 0) := by omega
    simp [this]
theorem zD_cases (z : Int) : ∃ s n, zD z = .agg [.bool s, u32s (limbs n)] ∧ z = (if s then -(n : Int) else n) ∧ z.natAbs = n ∧ (s = true → n ≠ 0) := by
  refine ⟨decide (z < 0), z.natAbs, rfl, ?_, rfl, ?_⟩
  · by_cases h : z < 0
    · simp [h]; omega
    · simp [h]; omega
  · intro h; have := of_decide_eq_true h; omega
structure IntOk (neg : Bool) (mag : List Nat) (k : Nat) : Prop where
  wf : WF mag
  len : mag.length < k
theorem IntOk.z {z : Int} {k : Nat} (h : (limbs z.natAbs).length < k) : IntOk (decide (z < 0)) (limbs z.natAbs) k := ⟨wf_limbs _, h⟩
theorem IntOk.val {neg : Bool} {mag : List Nat} {k : Nat} (h : IntOk neg mag k) : (limbs (iv' neg mag).natAbs).length < k := Nat.lt_of_le_of_lt (iv'_len h.wf) h.len
end Go.Vw

set_option linter.unusedVariables false
set_option linter.unusedSimpArgs false
namespace Go.Proofs.YtlphlodailailaaGreat
open Go.Vw
attribute [local irreducible] awp awpL awpR

theorem ref02_Valid (neg : Bool) (mag : List Nat) (hl : mag.length < 10000000000000) : Ret Tryz.prog 158 [intC neg mag] (· = .bool (validI neg mag)) := by
  have hv := ref01_Valid mag hl
  unfold validI
  generalize valid mag = v at *
  cases v <;> cases neg
  · refine ret_of_awp tab Tryz.func158 rfl rfl (Nat.le_of_ble_eq_true rfl) (fun w0 F0 => ?_)
    repeat' (first
      | (show awpL _ _ _ _ _; first | refine goL ?_ | refine cl 159 tt rfl rfl rfl (hr := hv) (k := ?_) | (refine gdLG ?_ ?_ <;> intro _ <;> try (exfalso; omega)))
      | (show awp _ _ _ _; first | refine goA ?_ | (refine cdG ?_ ?_ <;> intro _ <;> try (exfalso; omega)))
      | (show andThen _ _ _ _; refine goN ?_)
      | (show inBlock _ _ _ _; refine goB ?_)
      | (show retPost _ _ _ _ _; refine finG ?_))
    rfl
  · refine ret_of_awp tab Tryz.func158 rfl rfl (Nat.le_of_ble_eq_true rfl) (fun w0 F0 => ?_)
    repeat' (first
      | (show awpL _ _ _ _ _; first | refine goL ?_ | refine cl 159 tt rfl rfl rfl (hr := hv) (k := ?_) | (refine gdLG ?_ ?_ <;> intro _ <;> try (exfalso; omega)))
      | (show awp _ _ _ _; first | refine goA ?_ | (refine cdG ?_ ?_ <;> intro _ <;> try (exfalso; omega)))
      | (show andThen _ _ _ _; refine goN ?_)
      | (show inBlock _ _ _ _; refine goB ?_)
      | (show retPost _ _ _ _ _; refine finG ?_))
    rfl
  · refine ret_of_awp tab Tryz.func158 rfl rfl (Nat.le_of_ble_eq_true rfl) (fun w0 F0 => ?_)
    repeat' (first
      | (show awpL _ _ _ _ _; first | refine goL ?_ | refine cl 159 tt rfl rfl rfl (hr := hv) (k := ?_) | (refine gdLG ?_ ?_ <;> intro _ <;> try (exfalso; omega)))
      | (show awp _ _ _ _; first | refine goA ?_ | (refine cdG ?_ ?_ <;> intro _ <;> try (exfalso; omega)))
      | (show andThen _ _ _ _; refine goN ?_)
      | (show inBlock _ _ _ _; refine goB ?_)
      | (show retPost _ _ _ _ _; refine finG ?_))
    rfl
  · refine ret_of_awp tab Tryz.func158 rfl rfl (Nat.le_of_ble_eq_true rfl) (fun w0 F0 => ?_)
    repeat' (first
      | (show awpL _ _ _ _ _; first | refine goL ?_ | refine cl 159 tt rfl rfl rfl (hr := hv) (k := ?_) | (refine gdLG ?_ ?_ <;> intro _ <;> try (exfalso; omega)))
      | (show awp _ _ _ _; first | refine goA ?_ | (refine cdG ?_ ?_ <;> intro _ <;> try (exfalso; omega)))
      | (show andThen _ _ _ _; refine goN ?_)
      | (show inBlock _ _ _ _; refine goB ?_)
      | (show retPost _ _ _ _ _; refine finG ?_))
    simp

theorem ref02_Take (neg : Bool) (mag : List Nat) (wm : WF mag) (hl : mag.length < 1000000000000) : Ret Tryz.prog 129 [intC neg mag] (· = zD (iv' neg mag)) := by
  have hv := ref02_Valid neg mag (by omega)
  have ht := ref01_Take mag (by omega)
  cases h : validI neg mag with
  | false =>
    rw [h] at hv
    rw [show iv' neg mag = 0 from by simp [iv', h]]
    refine ret_of_awp tab Tryz.func129 rfl rfl (Nat.le_of_ble_eq_true rfl) (fun w0 F0 => ?_)
    rw [zD_zero]
    repeat' (first
      | (show awpL _ _ _ _ _; first | refine goL ?_ | refine cl 158 tt rfl rfl rfl (hr := hv) (k := ?_) | (refine gdLG ?_ ?_ <;> intro _ <;> try (exfalso; omega)))
      | (show awp _ _ _ _; first | refine goA ?_ | refine rg 3 5 ?_ | (refine cdG ?_ ?_ <;> intro _ <;> try (exfalso; omega)))
      | (show andThen _ _ _ _; refine goN ?_)
      | (show inBlock _ _ _ _; refine goB ?_)
      | (show awpR _ _ _ _ _ _ _; first | refine goR ?_ | refine clR 158 tt rfl rfl rfl (hr := hv) (k := ?_) | (refine gdRG ?_ ?_ <;> intro _ <;> try (exfalso; omega)))
      | (show retPost _ _ _ _ _; first | refine finF true rfl rfl sc ?_ | refine finF false rfl rfl sc ?_ | refine finC false rfl rfl sc sc ?_ | refine finN rfl rfl sc ?_ | refine finL true rfl rfl sc rfl (LeR.cons rfl leL LeR.nil) ?_ | refine finA true rfl rfl sc ?_ | refine finA false rfl rfl sc ?_ | refine finE true rfl rfl sc ?_ | refine finE false rfl rfl sc ?_))
    exact leL
  | true =>
    rw [h] at hv
    rw [← intC_valid wm h]
    rw [show takeL mag = mag from by
      unfold validI at h; rw [Bool.and_eq_true] at h; simp [takeL, h.1]] at ht
    refine ret_of_awp tab Tryz.func129 rfl rfl (Nat.le_of_ble_eq_true rfl) (fun w0 F0 => ?_)
    repeat' (first
      | (show awpL _ _ _ _ _; first | refine goL ?_ | refine cl 158 tt rfl rfl rfl (hr := hv) (k := ?_) | refine cl 130 tt rfl rfl rfl (hr := ht) (k := ?_) | (refine gdLG ?_ ?_ <;> intro _ <;> try (exfalso; omega)))
      | (show awp _ _ _ _; first | refine goA ?_ | refine rg 3 5 ?_ | (refine cdG ?_ ?_ <;> intro _ <;> try (exfalso; omega)))
      | (show andThen _ _ _ _; refine goN ?_)
      | (show inBlock _ _ _ _; refine goB ?_)
      | (show awpR _ _ _ _ _ _ _; first | refine goR ?_ | refine clR 158 tt rfl rfl rfl (hr := hv) (k := ?_) | refine clR 130 tt rfl rfl rfl (hr := ht) (k := ?_) | (refine gdRG ?_ ?_ <;> intro _ <;> try (exfalso; omega)))
      | (show retPost _ _ _ _ _; refine finG ?_))
    rfl
theorem ref02_signed (neg : Bool) (n : Nat) (hl : (limbs n).length < 1000000000000) : Ret Tryz.prog 114 [.bool neg, u32s (limbs n)] (· = zD (if neg then -(n : Int) else n)) := by
  rw [← signed_z]
  cases neg with
  | false => 
    refine ret_of_awp tab Tryz.func114 rfl rfl (Nat.le_of_ble_eq_true rfl) (fun w0 F0 => ?_)
    repeat' (first
      | (show awpL _ _ _ _ _; first | refine goL ?_ | (refine gdLG ?_ ?_ <;> intro _ <;> try (exfalso; omega)))
      | (show awp _ _ _ _; first | refine goA ?_ | (refine cdG ?_ ?_ <;> intro _ <;> try (exfalso; omega)))
      | (show andThen _ _ _ _; refine goN ?_)
      | (show inBlock _ _ _ _; refine goB ?_)
      | (show retPost _ _ _ _ _; refine finG ?_))
    rfl
  | true =>
    refine ret_of_awp tab Tryz.func114 rfl rfl (Nat.le_of_ble_eq_true rfl) (fun w0 F0 => ?_)
    repeat' (first
      | (show awpL _ _ _ _ _; first | refine goL ?_ | (refine gdLG ?_ ?_ <;> intro _ <;> try (exfalso; omega)))
      | (show awp _ _ _ _; first | refine goA ?_ | (refine cdG ?_ ?_ <;> intro _ <;> try (exfalso; omega)))
      | (show andThen _ _ _ _; refine goN ?_)
      | (show inBlock _ _ _ _; refine goB ?_)
      | (show retPost _ _ _ _ _; refine finG ?_))
    simp; rfl

theorem ref02_TakeZ (z : Int) (hl : (limbs z.natAbs).length < 1000000000000) : Ret Tryz.prog 129 [zD z] (· = zD z) := by
  have := ref02_Take (decide (z < 0)) (limbs z.natAbs) (wf_limbs _) hl
  rw [iv'_z] at this
  exact this

theorem ref02_Sign (neg : Bool) (mag : List Nat) (h : IntOk neg mag 1000000000000) : Ret Tryz.prog 131 [intC neg mag] (· = .int .i64 (iv' neg mag).sign) := by
  have ht := ref02_Take neg mag h.wf h.len
  generalize iv' neg mag = z at *
  obtain ⟨s, n, e1, e2, e3, e4⟩ := zD_cases z
  rw [e1] at ht
  cases s with
  | true =>
    have h0 := e4 rfl
    have : z.sign = -1 := Int.sign_eq_neg_one_of_neg (by simp at e2; omega)
    rw [this]
    refine ret_of_awp tab Tryz.func131 rfl rfl (Nat.le_of_ble_eq_true rfl) (fun w0 F0 => ?_)
    repeat' (first
      | (show awpL _ _ _ _ _; first | refine goL ?_ | refine cl 129 tt rfl rfl rfl (hr := ht) (k := ?_) | (refine gdLG ?_ ?_ <;> intro _ <;> try (exfalso; omega)))
      | (show awp _ _ _ _; first | refine goA ?_ | (refine cdG ?_ ?_ <;> intro _ <;> try (exfalso; omega)))
      | (show andThen _ _ _ _; refine goN ?_)
      | (show inBlock _ _ _ _; refine goB ?_)
      | (show retPost _ _ _ _ _; refine finG ?_))
    rfl
  | false =>
    simp at e2
    refine ret_of_awp tab Tryz.func131 rfl rfl (Nat.le_of_ble_eq_true rfl) (fun w0 F0 => ?_)
    repeat' (first
      | (show awpL _ _ _ _ _; first | refine goL ?_ | refine cl 129 tt rfl rfl rfl (hr := ht) (k := ?_) | (refine gdLG ?_ ?_ <;> intro _ <;> try (exfalso; omega)))
      | (show awp _ _ _ _; first | refine goA ?_ | (refine cdG ?_ ?_ <;> intro _ <;> try (exfalso; omega)))
      | (show andThen _ _ _ _; refine goN ?_)
      | (show inBlock _ _ _ _; refine goB ?_)
      | (show retPost _ _ _ _ _; refine finG ?_))
    · rename_i hp
      have : z.sign = 1 := Int.sign_eq_one_of_pos (by
        have : n ≠ 0 := fun e => by subst e; rw [limbs_zero] at hp; simp at hp
        omega)
      rw [this]
    · rename_i hp
      have : n = 0 := limbs_eq_nil.1 (List.length_eq_zero_iff.1 (by omega))
      subst this
      rw [e2]; rfl

theorem ref02_Neg (neg : Bool) (mag : List Nat) (h : IntOk neg mag 1000000000000) : Ret Tryz.prog 112 [intC neg mag] (· = zD (-iv' neg mag)) := by
  have ht := ref02_Take neg mag h.wf h.len
  have hl := h.val
  generalize iv' neg mag = z at *
  obtain ⟨s, n, e1, e2, e3, e4⟩ := zD_cases z
  rw [e1] at ht
  rw [e3] at hl
  cases s with
  | true =>
    have : -z = n := by simp at e2; omega
    rw [this]
    refine ret_of_awp tab Tryz.func112 rfl rfl (Nat.le_of_ble_eq_true rfl) (fun w0 F0 => ?_)
    repeat' (first
      | (show awpL _ _ _ _ _; first | refine goL ?_ | refine cl 129 tt rfl rfl rfl (hr := ht) (k := ?_) | refine cl 114 tt rfl rfl rfl (hr := ref02_signed false _ (by omega)) (k := ?_) | (refine gdLG ?_ ?_ <;> intro _ <;> try (exfalso; omega)))
      | (show awp _ _ _ _; first | refine goA ?_ | (refine cdG ?_ ?_ <;> intro _ <;> try (exfalso; omega)))
      | (show andThen _ _ _ _; refine goN ?_)
      | (show inBlock _ _ _ _; refine goB ?_)
      | (show retPost _ _ _ _ _; refine finG ?_))
    rfl
  | false =>
    have : -z = -(n : Int) := by simp at e2; omega
    rw [this]
    refine ret_of_awp tab Tryz.func112 rfl rfl (Nat.le_of_ble_eq_true rfl) (fun w0 F0 => ?_)
    repeat' (first
      | (show awpL _ _ _ _ _; first | refine goL ?_ | refine cl 129 tt rfl rfl rfl (hr := ht) (k := ?_) | refine cl 114 tt rfl rfl rfl (hr := ref02_signed true _ (by omega)) (k := ?_) | (refine gdLG ?_ ?_ <;> intro _ <;> try (exfalso; omega)))
      | (show awp _ _ _ _; first | refine goA ?_ | (refine cdG ?_ ?_ <;> intro _ <;> try (exfalso; omega)))
      | (show andThen _ _ _ _; refine goN ?_)
      | (show inBlock _ _ _ _; refine goB ?_)
      | (show retPost _ _ _ _ _; refine finG ?_))
    rfl

theorem ref02_Add (n1 n2 : Bool) (m1 m2 : List Nat) (h1 : IntOk n1 m1 100000000000) (h2 : IntOk n2 m2 100000000000) : Ret Tryz.prog 87 [intC n1 m1, intC n2 m2] (· = zD (iv' n1 m1 + iv' n2 m2)) := by
  have ta := ref02_Take n1 m1 h1.wf (Nat.lt_trans h1.len (by decide))
  have tb := ref02_Take n2 m2 h2.wf (Nat.lt_trans h2.len (by decide))
  have la := h1.val
  have lb := h2.val
  generalize iv' n1 m1 = x at *
  generalize iv' n2 m2 = y at *
  obtain ⟨s, a, e1, e2, e3, e4⟩ := zD_cases x
  obtain ⟨t, b, f1, f2, f3, f4⟩ := zD_cases y
  rw [e1] at ta
  rw [f1] at tb
  rw [e3] at la
  rw [f3] at lb
  have ladd := ln_add a b
  have ls := len_bound (Nat.sub_le a b) la
  have ls' := len_bound (Nat.sub_le b a) lb
  simp only [ln] at ladd
  cases s <;> cases t
  · refine ret_of_awp tab Tryz.func87 rfl rfl (Nat.le_of_ble_eq_true rfl) (fun w0 F0 => ?_)
    repeat' (first
      | (show awpL _ _ _ _ _; first | refine goL ?_ | refine cl 129 tt rfl rfl rfl (hr := ta) (k := ?_) | refine cl 129 tt rfl rfl rfl (hr := tb) (k := ?_) | refine cl 135 tt rfl rfl rfl (hr := ref01_SubN _ _ (by omega) (by omega)) (k := ?_) | refine cl 114 tt rfl rfl rfl (hr := ref02_signed _ _ (by omega)) (k := ?_) | refine cl 115 tt rfl rfl rfl (hr := ref01_AddN _ _ (by omega) (by omega)) (k := ?_) | refine cl 114 tt rfl rfl rfl (hr := ref02_signed false _ (by omega)) (k := ?_) | (refine gdLG ?_ ?_ <;> intro _ <;> try (exfalso; omega)))
      | (show awp _ _ _ _; first | refine goA ?_ | refine rg 1 3 ?_ | refine rg 3 7 ?_ | (refine cdG ?_ ?_ <;> intro _ <;> try (exfalso; omega)))
      | (show andThen _ _ _ _; refine goN ?_)
      | (show inBlock _ _ _ _; refine goB ?_)
      | (show awpR _ _ _ _ _ _ _; first | refine goR ?_ | refine clR 129 tt rfl rfl rfl (hr := ta) (k := ?_) | refine clR 129 tt rfl rfl rfl (hr := tb) (k := ?_) | refine clR 135 tt rfl rfl rfl (hr := ref01_SubN _ _ (by omega) (by omega)) (k := ?_) | refine clR 114 tt rfl rfl rfl (hr := ref02_signed _ _ (by omega)) (k := ?_) | refine clR 115 tt rfl rfl rfl (hr := ref01_AddN _ _ (by omega) (by omega)) (k := ?_) | refine clR 114 tt rfl rfl rfl (hr := ref02_signed false _ (by omega)) (k := ?_) | (refine gdRG ?_ ?_ <;> intro _ <;> try (exfalso; omega)))
      | (show retPost _ _ _ _ _; refine finG ?_))
    show _ = zD _
    rw [e2, f2, show ((if false = true then -(a : Int) else a) + (if false = true then -(b : Int) else b) : Int) = (if false = true then -((a + b : Nat) : Int) else ((a + b : Nat) : Int)) by simp; try omega]; rfl
  · refine ret_of_awp tab Tryz.func87 rfl rfl (Nat.le_of_ble_eq_true rfl) (fun w0 F0 => ?_)
    repeat' (first
      | (show awpL _ _ _ _ _; first | refine goL ?_ | refine cl 129 tt rfl rfl rfl (hr := ta) (k := ?_) | refine cl 129 tt rfl rfl rfl (hr := tb) (k := ?_) | refine cl 135 tt rfl rfl rfl (hr := ref01_SubN _ _ (by omega) (by omega)) (k := ?_) | refine cl 114 tt rfl rfl rfl (hr := ref02_signed _ _ (by omega)) (k := ?_) | (refine gdLG ?_ ?_ <;> intro _ <;> try (exfalso; omega)))
      | (show awp _ _ _ _; first | refine goA ?_ | refine rg 1 3 ?_ | refine rg 3 7 ?_ | (refine cdG ?_ ?_ <;> intro _ <;> try (exfalso; omega)))
      | (show andThen _ _ _ _; refine goN ?_)
      | (show inBlock _ _ _ _; refine goB ?_)
      | (show awpR _ _ _ _ _ _ _; first | refine goR ?_ | refine clR 129 tt rfl rfl rfl (hr := ta) (k := ?_) | refine clR 129 tt rfl rfl rfl (hr := tb) (k := ?_) | refine clR 135 tt rfl rfl rfl (hr := ref01_SubN _ _ (by omega) (by omega)) (k := ?_) | refine clR 114 tt rfl rfl rfl (hr := ref02_signed _ _ (by omega)) (k := ?_) | (refine gdRG ?_ ?_ <;> intro _ <;> try (exfalso; omega)))
      | (show retPost _ _ _ _ _; refine finG ?_))
    · refine congrArg zD ?_
      rw [e2, f2]; simp only [Bool.false_eq_true, if_true, if_false]; omega
    · refine congrArg zD ?_
      rw [e2, f2]; simp only [Bool.false_eq_true, if_true, if_false]; omega
  · refine ret_of_awp tab Tryz.func87 rfl rfl (Nat.le_of_ble_eq_true rfl) (fun w0 F0 => ?_)
    repeat' (first
      | (show awpL _ _ _ _ _; first | refine goL ?_ | refine cl 129 tt rfl rfl rfl (hr := ta) (k := ?_) | refine cl 129 tt rfl rfl rfl (hr := tb) (k := ?_) | refine cl 135 tt rfl rfl rfl (hr := ref01_SubN _ _ (by omega) (by omega)) (k := ?_) | refine cl 114 tt rfl rfl rfl (hr := ref02_signed _ _ (by omega)) (k := ?_) | (refine gdLG ?_ ?_ <;> intro _ <;> try (exfalso; omega)))
      | (show awp _ _ _ _; first | refine goA ?_ | refine rg 1 3 ?_ | refine rg 3 7 ?_ | (refine cdG ?_ ?_ <;> intro _ <;> try (exfalso; omega)))
      | (show andThen _ _ _ _; refine goN ?_)
      | (show inBlock _ _ _ _; refine goB ?_)
      | (show awpR _ _ _ _ _ _ _; first | refine goR ?_ | refine clR 129 tt rfl rfl rfl (hr := ta) (k := ?_) | refine clR 129 tt rfl rfl rfl (hr := tb) (k := ?_) | refine clR 135 tt rfl rfl rfl (hr := ref01_SubN _ _ (by omega) (by omega)) (k := ?_) | refine clR 114 tt rfl rfl rfl (hr := ref02_signed _ _ (by omega)) (k := ?_) | (refine gdRG ?_ ?_ <;> intro _ <;> try (exfalso; omega)))
      | (show retPost _ _ _ _ _; refine finG ?_))
    · refine congrArg zD ?_
      rw [e2, f2]; simp only [Bool.false_eq_true, if_true, if_false]; omega
    · refine congrArg zD ?_
      rw [e2, f2]; simp only [Bool.false_eq_true, if_true, if_false]; omega
  · refine ret_of_awp tab Tryz.func87 rfl rfl (Nat.le_of_ble_eq_true rfl) (fun w0 F0 => ?_)
    repeat' (first
      | (show awpL _ _ _ _ _; first | refine goL ?_ | refine cl 129 tt rfl rfl rfl (hr := ta) (k := ?_) | refine cl 129 tt rfl rfl rfl (hr := tb) (k := ?_) | refine cl 135 tt rfl rfl rfl (hr := ref01_SubN _ _ (by omega) (by omega)) (k := ?_) | refine cl 114 tt rfl rfl rfl (hr := ref02_signed _ _ (by omega)) (k := ?_) | refine cl 115 tt rfl rfl rfl (hr := ref01_AddN _ _ (by omega) (by omega)) (k := ?_) | refine cl 114 tt rfl rfl rfl (hr := ref02_signed true _ (by omega)) (k := ?_) | (refine gdLG ?_ ?_ <;> intro _ <;> try (exfalso; omega)))
      | (show awp _ _ _ _; first | refine goA ?_ | refine rg 1 3 ?_ | refine rg 3 7 ?_ | (refine cdG ?_ ?_ <;> intro _ <;> try (exfalso; omega)))
      | (show andThen _ _ _ _; refine goN ?_)
      | (show inBlock _ _ _ _; refine goB ?_)
      | (show awpR _ _ _ _ _ _ _; first | refine goR ?_ | refine clR 129 tt rfl rfl rfl (hr := ta) (k := ?_) | refine clR 129 tt rfl rfl rfl (hr := tb) (k := ?_) | refine clR 135 tt rfl rfl rfl (hr := ref01_SubN _ _ (by omega) (by omega)) (k := ?_) | refine clR 114 tt rfl rfl rfl (hr := ref02_signed _ _ (by omega)) (k := ?_) | refine clR 115 tt rfl rfl rfl (hr := ref01_AddN _ _ (by omega) (by omega)) (k := ?_) | refine clR 114 tt rfl rfl rfl (hr := ref02_signed true _ (by omega)) (k := ?_) | (refine gdRG ?_ ?_ <;> intro _ <;> try (exfalso; omega)))
      | (show retPost _ _ _ _ _; refine finG ?_))
    show _ = zD _
    rw [e2, f2, show ((if true = true then -(a : Int) else a) + (if true = true then -(b : Int) else b) : Int) = (if true = true then -((a + b : Nat) : Int) else ((a + b : Nat) : Int)) by simp; try omega]; rfl

theorem ref02_Mul (n1 n2 : Bool) (m1 m2 : List Nat) (h1 : IntOk n1 m1 10000000000) (h2 : IntOk n2 m2 10000000000) : Ret Tryz.prog 88 [intC n1 m1, intC n2 m2] (· = zD (iv' n1 m1 * iv' n2 m2)) := by
  have ta := ref02_Take n1 m1 h1.wf (Nat.lt_trans h1.len (by decide))
  have tb := ref02_Take n2 m2 h2.wf (Nat.lt_trans h2.len (by decide))
  have la := h1.val
  have lb := h2.val
  generalize iv' n1 m1 = x at *
  generalize iv' n2 m2 = y at *
  obtain ⟨s, a, e1, e2, e3, e4⟩ := zD_cases x
  obtain ⟨t, b, f1, f2, f3, f4⟩ := zD_cases y
  rw [e1] at ta
  rw [f1] at tb
  rw [e3] at la
  rw [f3] at lb
  have lm := ln_mul a b
  simp only [ln] at lm
  have hm := ref01_MulN a b la lb
  have hs := fun s => ref02_signed s (a * b) (by omega)
  rw [e2, f2]
  cases s <;> cases t
  · refine ret_of_awp tab Tryz.func88 rfl rfl (Nat.le_of_ble_eq_true rfl) (fun w0 F0 => ?_)
    repeat' (first
      | (show awpL _ _ _ _ _; first | refine goL ?_ | refine cl 129 tt rfl rfl rfl (hr := ta) (k := ?_) | refine cl 129 tt rfl rfl rfl (hr := tb) (k := ?_) | refine cl 104 tt rfl rfl rfl (hr := hm) (k := ?_) | refine cl 114 tt rfl rfl rfl (hr := hs false) (k := ?_) | (refine gdLG ?_ ?_ <;> intro _ <;> try (exfalso; omega)))
      | (show awp _ _ _ _; first | refine goA ?_ | refine rg 1 3 ?_ | refine rg 2 10 ?_ | (refine cdG ?_ ?_ <;> intro _ <;> try (exfalso; omega)))
      | (show andThen _ _ _ _; refine goN ?_)
      | (show inBlock _ _ _ _; refine goB ?_)
      | (show awpR _ _ _ _ _ _ _; first | refine goR ?_ | refine clR 129 tt rfl rfl rfl (hr := ta) (k := ?_) | refine clR 129 tt rfl rfl rfl (hr := tb) (k := ?_) | refine clR 104 tt rfl rfl rfl (hr := hm) (k := ?_) | refine clR 114 tt rfl rfl rfl (hr := hs false) (k := ?_) | (refine gdRG ?_ ?_ <;> intro _ <;> try (exfalso; omega)))
      | (show retPost _ _ _ _ _; refine finG ?_))
    refine congrArg zD ?_
    simp [Int.neg_mul, Int.mul_neg]
  · refine ret_of_awp tab Tryz.func88 rfl rfl (Nat.le_of_ble_eq_true rfl) (fun w0 F0 => ?_)
    repeat' (first
      | (show awpL _ _ _ _ _; first | refine goL ?_ | refine cl 129 tt rfl rfl rfl (hr := ta) (k := ?_) | refine cl 129 tt rfl rfl rfl (hr := tb) (k := ?_) | refine cl 104 tt rfl rfl rfl (hr := hm) (k := ?_) | refine cl 114 tt rfl rfl rfl (hr := hs true) (k := ?_) | (refine gdLG ?_ ?_ <;> intro _ <;> try (exfalso; omega)))
      | (show awp _ _ _ _; first | refine goA ?_ | refine rg 1 3 ?_ | refine rg 2 10 ?_ | (refine cdG ?_ ?_ <;> intro _ <;> try (exfalso; omega)))
      | (show andThen _ _ _ _; refine goN ?_)
      | (show inBlock _ _ _ _; refine goB ?_)
      | (show awpR _ _ _ _ _ _ _; first | refine goR ?_ | refine clR 129 tt rfl rfl rfl (hr := ta) (k := ?_) | refine clR 129 tt rfl rfl rfl (hr := tb) (k := ?_) | refine clR 104 tt rfl rfl rfl (hr := hm) (k := ?_) | refine clR 114 tt rfl rfl rfl (hr := hs true) (k := ?_) | (refine gdRG ?_ ?_ <;> intro _ <;> try (exfalso; omega)))
      | (show retPost _ _ _ _ _; refine finG ?_))
    refine congrArg zD ?_
    simp [Int.neg_mul, Int.mul_neg]
  · refine ret_of_awp tab Tryz.func88 rfl rfl (Nat.le_of_ble_eq_true rfl) (fun w0 F0 => ?_)
    repeat' (first
      | (show awpL _ _ _ _ _; first | refine goL ?_ | refine cl 129 tt rfl rfl rfl (hr := ta) (k := ?_) | refine cl 129 tt rfl rfl rfl (hr := tb) (k := ?_) | refine cl 104 tt rfl rfl rfl (hr := hm) (k := ?_) | refine cl 114 tt rfl rfl rfl (hr := hs true) (k := ?_) | (refine gdLG ?_ ?_ <;> intro _ <;> try (exfalso; omega)))
      | (show awp _ _ _ _; first | refine goA ?_ | refine rg 1 3 ?_ | refine rg 2 10 ?_ | (refine cdG ?_ ?_ <;> intro _ <;> try (exfalso; omega)))
      | (show andThen _ _ _ _; refine goN ?_)
      | (show inBlock _ _ _ _; refine goB ?_)
      | (show awpR _ _ _ _ _ _ _; first | refine goR ?_ | refine clR 129 tt rfl rfl rfl (hr := ta) (k := ?_) | refine clR 129 tt rfl rfl rfl (hr := tb) (k := ?_) | refine clR 104 tt rfl rfl rfl (hr := hm) (k := ?_) | refine clR 114 tt rfl rfl rfl (hr := hs true) (k := ?_) | (refine gdRG ?_ ?_ <;> intro _ <;> try (exfalso; omega)))
      | (show retPost _ _ _ _ _; refine finG ?_))
    refine congrArg zD ?_
    simp [Int.neg_mul, Int.mul_neg]
  · refine ret_of_awp tab Tryz.func88 rfl rfl (Nat.le_of_ble_eq_true rfl) (fun w0 F0 => ?_)
    repeat' (first
      | (show awpL _ _ _ _ _; first | refine goL ?_ | refine cl 129 tt rfl rfl rfl (hr := ta) (k := ?_) | refine cl 129 tt rfl rfl rfl (hr := tb) (k := ?_) | refine cl 104 tt rfl rfl rfl (hr := hm) (k := ?_) | refine cl 114 tt rfl rfl rfl (hr := hs false) (k := ?_) | (refine gdLG ?_ ?_ <;> intro _ <;> try (exfalso; omega)))
      | (show awp _ _ _ _; first | refine goA ?_ | refine rg 1 3 ?_ | refine rg 2 10 ?_ | (refine cdG ?_ ?_ <;> intro _ <;> try (exfalso; omega)))
      | (show andThen _ _ _ _; refine goN ?_)
      | (show inBlock _ _ _ _; refine goB ?_)
      | (show awpR _ _ _ _ _ _ _; first | refine goR ?_ | refine clR 129 tt rfl rfl rfl (hr := ta) (k := ?_) | refine clR 129 tt rfl rfl rfl (hr := tb) (k := ?_) | refine clR 104 tt rfl rfl rfl (hr := hm) (k := ?_) | refine clR 114 tt rfl rfl rfl (hr := hs false) (k := ?_) | (refine gdRG ?_ ?_ <;> intro _ <;> try (exfalso; omega)))
      | (show retPost _ _ _ _ _; refine finG ?_))
    refine congrArg zD ?_
    simp [Int.neg_mul, Int.mul_neg]

theorem ref02_Gcd (n1 n2 : Bool) (m1 m2 : List Nat) (h1 : IntOk n1 m1 100000000) (h2 : IntOk n2 m2 100000000) : Ret Tryz.prog 132 [intC n1 m1, intC n2 m2] (· = u32s (limbs (Int.gcd (iv' n1 m1) (iv' n2 m2)))) := by
  have ta := ref02_Take n1 m1 h1.wf (Nat.lt_trans h1.len (by decide))
  have tb := ref02_Take n2 m2 h2.wf (Nat.lt_trans h2.len (by decide))
  have la := h1.val
  have lb := h2.val
  generalize iv' n1 m1 = x at *
  generalize iv' n2 m2 = y at *
  obtain ⟨s, a, e1, e2, e3, e4⟩ := zD_cases x
  obtain ⟨t, b, f1, f2, f3, f4⟩ := zD_cases y
  rw [e1] at ta
  rw [f1] at tb
  unfold Int.gcd
  rw [e3] at la ⊢
  rw [f3] at lb ⊢
  refine ret_of_awp tab Tryz.func132 rfl rfl (Nat.le_of_ble_eq_true rfl) (fun w0 F0 => ?_)
  repeat' (first
    | (show awpL _ _ _ _ _; first | refine goL ?_ | refine cl 129 tt rfl rfl rfl (hr := ta) (k := ?_) | refine cl 129 tt rfl rfl rfl (hr := tb) (k := ?_) | refine cl 160 tt rfl rfl rfl (hr := ref01_GcdN _ _ (by omega) (by omega)) (k := ?_) | (refine gdLG ?_ ?_ <;> intro _ <;> try (exfalso; omega)))
    | (show awp _ _ _ _; first | refine goA ?_ | refine rg 1 6 ?_ | (refine cdG ?_ ?_ <;> intro _ <;> try (exfalso; omega)))
    | (show andThen _ _ _ _; refine goN ?_)
    | (show inBlock _ _ _ _; refine goB ?_)
    | (show awpR _ _ _ _ _ _ _; first | refine goR ?_ | refine clR 129 tt rfl rfl rfl (hr := ta) (k := ?_) | refine clR 129 tt rfl rfl rfl (hr := tb) (k := ?_) | refine clR 160 tt rfl rfl rfl (hr := ref01_GcdN _ _ (by omega) (by omega)) (k := ?_) | (refine gdRG ?_ ?_ <;> intro _ <;> try (exfalso; omega)))
    | (show retPost _ _ _ _ _; refine finG ?_))
  rfl

theorem ref02_Same (n1 n2 : Bool) (m1 m2 : List Nat) (h1 : m1.length < 1000000000000) (h2 : m2.length < 1000000000000) : Ret Tryz.prog 76 [intC n1 m1, intC n2 m2] (· = .bool (decide (n1 = n2 ∧ m1 = m2))) := by
  have hs := ref01_Same m1 m2 (by omega) (by omega)
  cases n1 <;> cases n2
  · refine ret_of_awp tab Tryz.func76 rfl rfl (Nat.le_of_ble_eq_true rfl) (fun w0 F0 => ?_)
    repeat' (first
      | (show awpL _ _ _ _ _; first | refine goL ?_ | refine cl 77 tt rfl rfl rfl (hr := hs) (k := ?_) | (refine gdLG ?_ ?_ <;> intro _ <;> try (exfalso; omega)))
      | (show awp _ _ _ _; first | refine goA ?_ | (refine cdG ?_ ?_ <;> intro _ <;> try (exfalso; omega)))
      | (show andThen _ _ _ _; refine goN ?_)
      | (show inBlock _ _ _ _; refine goB ?_)
      | (show retPost _ _ _ _ _; refine finG ?_))
    simp
  · refine ret_of_awp tab Tryz.func76 rfl rfl (Nat.le_of_ble_eq_true rfl) (fun w0 F0 => ?_)
    repeat' (first
      | (show awpL _ _ _ _ _; first | refine goL ?_ | refine cl 77 tt rfl rfl rfl (hr := hs) (k := ?_) | (refine gdLG ?_ ?_ <;> intro _ <;> try (exfalso; omega)))
      | (show awp _ _ _ _; first | refine goA ?_ | (refine cdG ?_ ?_ <;> intro _ <;> try (exfalso; omega)))
      | (show andThen _ _ _ _; refine goN ?_)
      | (show inBlock _ _ _ _; refine goB ?_)
      | (show retPost _ _ _ _ _; refine finG ?_))
    simp
  · refine ret_of_awp tab Tryz.func76 rfl rfl (Nat.le_of_ble_eq_true rfl) (fun w0 F0 => ?_)
    repeat' (first
      | (show awpL _ _ _ _ _; first | refine goL ?_ | refine cl 77 tt rfl rfl rfl (hr := hs) (k := ?_) | (refine gdLG ?_ ?_ <;> intro _ <;> try (exfalso; omega)))
      | (show awp _ _ _ _; first | refine goA ?_ | (refine cdG ?_ ?_ <;> intro _ <;> try (exfalso; omega)))
      | (show andThen _ _ _ _; refine goN ?_)
      | (show inBlock _ _ _ _; refine goB ?_)
      | (show retPost _ _ _ _ _; refine finG ?_))
    simp
  · refine ret_of_awp tab Tryz.func76 rfl rfl (Nat.le_of_ble_eq_true rfl) (fun w0 F0 => ?_)
    repeat' (first
      | (show awpL _ _ _ _ _; first | refine goL ?_ | refine cl 77 tt rfl rfl rfl (hr := hs) (k := ?_) | (refine gdLG ?_ ?_ <;> intro _ <;> try (exfalso; omega)))
      | (show awp _ _ _ _; first | refine goA ?_ | (refine cdG ?_ ?_ <;> intro _ <;> try (exfalso; omega)))
      | (show andThen _ _ _ _; refine goN ?_)
      | (show inBlock _ _ _ _; refine goB ?_)
      | (show retPost _ _ _ _ _; refine finG ?_))
    simp

theorem ref01_FromUintI (i : Int) (v : Nat) (e : i = v) (h : v < 18446744073709551616) : Ret Tryz.prog 116 [.int .u64 i] (· = u32s (limbs v)) := by
  subst e; exact ref01_FromUint v h
theorem u64_len {v : Nat} (h : v < 18446744073709551616) : (limbs v).length ≤ 2 := length_limbs_le (by simpa [B_val] using h)
theorem ref02_FromInt (v : Int) (h1 : -9223372036854775808 ≤ v) (h2 : v < 9223372036854775808) : Ret Tryz.prog 78 [.int .i64 v] (· = zD v) := by
  by_cases h : v < 0
  · obtain ⟨n, hn⟩ : ∃ n : Nat, v = -((n + 1 : Nat) : Int) := ⟨(-(v + 1)).toNat, by omega⟩
    have l1 := u64_len (v := n) (by omega)
    have l2 := u64_len (v := n + 1) (by omega)
    have ha := ref01_AddN n 1 (by omega) (by have := ln_one; simp only [ln] at this; omega)
    rw [show limbs 1 = [1] from limbs_small (by decide) (by decide)] at ha
    refine ret_of_awp tab Tryz.func78 rfl rfl (Nat.le_of_ble_eq_true rfl) (fun w0 F0 => ?_)
    repeat' (first
      | (show awpL _ _ _ _ _; first | refine goL ?_ | refine cl 116 tt rfl rfl rfl (hr := ref01_FromUintI _ n (by omega) (by omega)) (k := ?_) | refine cl 115 tt rfl rfl rfl (hr := ha) (k := ?_) | refine cl 114 tt rfl rfl rfl (hr := ref02_signed true _ (by omega)) (k := ?_) | (refine gdLG ?_ ?_ <;> intro _ <;> try (exfalso; omega)))
      | (show awp _ _ _ _; first | refine goA ?_ | (refine cdG ?_ ?_ <;> intro _ <;> try (exfalso; omega)))
      | (show andThen _ _ _ _; refine goN ?_)
      | (show inBlock _ _ _ _; refine goB ?_)
      | (show retPost _ _ _ _ _; refine finG ?_))
    refine congrArg zD ?_
    simp only [if_true]; omega
  · obtain ⟨n, hn⟩ : ∃ n : Nat, v = n := ⟨v.toNat, by omega⟩
    have l1 := u64_len (v := n) (by omega)
    refine ret_of_awp tab Tryz.func78 rfl rfl (Nat.le_of_ble_eq_true rfl) (fun w0 F0 => ?_)
    repeat' (first
      | (show awpL _ _ _ _ _; first | refine goL ?_ | refine cl 116 tt rfl rfl rfl (hr := ref01_FromUintI _ n (by omega) (by omega)) (k := ?_) | refine cl 114 tt rfl rfl rfl (hr := ref02_signed false _ (by omega)) (k := ?_) | (refine gdLG ?_ ?_ <;> intro _ <;> try (exfalso; omega)))
      | (show awp _ _ _ _; first | refine goA ?_ | (refine cdG ?_ ?_ <;> intro _ <;> try (exfalso; omega)))
      | (show andThen _ _ _ _; refine goN ?_)
      | (show inBlock _ _ _ _; refine goB ?_)
      | (show retPost _ _ _ _ _; refine finG ?_))
    refine congrArg zD ?_
    simp only [Bool.false_eq_true, if_false]; omega

theorem euc {x y q r : Int} (h : y * q + r = x) (h0 : 0 ≤ r) (h1 : r < y.natAbs) : x / y = q ∧ x % y = r := by
  have hy : y ≠ 0 := by omega
  subst h
  have e1 : r % y = r := by
    rcases Int.lt_or_gt_of_ne hy with h | h
    · rw [← Int.emod_neg]; exact Int.emod_eq_of_lt h0 (by omega)
    · exact Int.emod_eq_of_lt h0 (by omega)
  have e2 : r / y = 0 := by
    have := Int.mul_ediv_add_emod r y
    rw [e1] at this
    have : y * (r / y) = 0 := by omega
    rcases Int.mul_eq_zero.1 this with h | h
    · exact absurd h hy
    · exact h
  rw [Int.add_comm, Int.add_mul_ediv_left _ _ hy, e2, Int.add_mul_emod_self_left, e1]
  exact ⟨by omega, rfl⟩

theorem divz {x y q r : Int} (h : y * q + r = x) (h0 : 0 ≤ r) (h1 : r < y.natAbs) : D.tup [zD q, zD r, D.bool true] = D.tup [zD (x / y), zD (x % y), D.bool true] := by
  obtain ⟨e1, e2⟩ := euc h h0 h1
  rw [e1, e2]
theorem ref02_Div (n1 n2 : Bool) (m1 m2 : List Nat) (h1 : IntOk n1 m1 100000000) (h2 : IntOk n2 m2 100000000) (h0 : iv' n2 m2 ≠ 0) : Ret Tryz.prog 133 [intC n1 m1, intC n2 m2] (· = .tup [zD (iv' n1 m1 / iv' n2 m2), zD (iv' n1 m1 % iv' n2 m2), .bool true]) := by
  have ta := ref02_Take n1 m1 h1.wf (Nat.lt_trans h1.len (by decide))
  have tb := ref02_Take n2 m2 h2.wf (Nat.lt_trans h2.len (by decide))
  have la := h1.val
  have lb := h2.val
  generalize iv' n1 m1 = x at *
  generalize iv' n2 m2 = y at *
  obtain ⟨s, a, e1, e2, e3, e4⟩ := zD_cases x
  obtain ⟨t, b, f1, f2, f3, f4⟩ := zD_cases y
  rw [e1] at ta
  rw [f1] at tb
  rw [e3] at la
  rw [f3] at lb
  have hb : b ≠ 0 := by omega
  have hd := ref01_DivN a b (by omega) (by omega) hb
  have l1 := len_bound (Nat.div_le_self a b) la
  have hr := Nat.mod_lt a (Nat.pos_of_ne_zero hb)
  have hx := Nat.div_add_mod a b
  have l2 := len_bound (Nat.le_of_lt hr) lb
  have l3 := len_bound (Nat.sub_le b (a % b)) lb
  have l4 := ln_add (a / b) 1
  have l5 := ln_one
  simp only [ln] at l4 l5
  have ha := ref01_AddN (a / b) 1 (by omega) (by omega)
  rw [show limbs 1 = [1] from limbs_small (by decide) (by decide)] at ha
  have hs := ref01_SubN b (a % b) (by omega) (by omega)
  have hz : (limbs (a % b)).length = 0 ↔ a % b = 0 := ⟨fun h => limbs_eq_nil.1 (List.length_eq_zero_iff.1 h), fun h => by rw [h, limbs_zero]; rfl⟩
  generalize a / b = q at *
  generalize a % b = r at *
  have hx' : (b : Int) * q + r = a := by rw [← hx]; simp
  cases s <;> cases t
  · simp only [Bool.false_eq_true, if_true, if_false] at e2 f2
    refine ret_of_awp tab Tryz.func133 rfl rfl (Nat.le_of_ble_eq_true rfl) (fun w0 F0 => ?_)
    repeat' (first
      | (show awpL _ _ _ _ _; first | refine goL ?_ | refine cl 129 tt rfl rfl rfl (hr := ta) (k := ?_) | refine cl 129 tt rfl rfl rfl (hr := tb) (k := ?_) | refine cl 161 tt rfl rfl rfl (hr := hd) (k := ?_) | refine cl 115 tt rfl rfl rfl (hr := ha) (k := ?_) | refine cl 135 tt rfl rfl rfl (hr := hs) (k := ?_) | refine cl 114 tt rfl rfl rfl (hr := ref02_signed _ _ (by omega)) (k := ?_) | (refine gdLG ?_ ?_ <;> intro _ <;> try (exfalso; omega)))
      | (show awp _ _ _ _; first | refine goA ?_ | refine rg 1 3 ?_ | (refine cdG ?_ ?_ <;> intro _ <;> try (exfalso; omega)))
      | (show andThen _ _ _ _; refine goN ?_)
      | (show inBlock _ _ _ _; refine goB ?_)
      | (show awpR _ _ _ _ _ _ _; first | refine goR ?_ | refine clR 129 tt rfl rfl rfl (hr := ta) (k := ?_) | refine clR 129 tt rfl rfl rfl (hr := tb) (k := ?_) | refine clR 161 tt rfl rfl rfl (hr := hd) (k := ?_) | refine clR 115 tt rfl rfl rfl (hr := ha) (k := ?_) | refine clR 135 tt rfl rfl rfl (hr := hs) (k := ?_) | refine clR 114 tt rfl rfl rfl (hr := ref02_signed _ _ (by omega)) (k := ?_) | (refine gdRG ?_ ?_ <;> intro _ <;> try (exfalso; omega)))
      | (show retPost _ _ _ _ _; refine finG ?_))
    · refine divz (q := (q:Int)) (r := (r:Int)) ?_ ?_ ?_
      · rw [e2, f2]; (try simp only [Int.neg_mul, Int.mul_neg, Int.neg_neg, Int.mul_add, Int.mul_one, Int.natCast_add, Int.natCast_one]); omega
      · omega
      · omega
  · simp only [Bool.false_eq_true, if_true, if_false] at e2 f2
    refine ret_of_awp tab Tryz.func133 rfl rfl (Nat.le_of_ble_eq_true rfl) (fun w0 F0 => ?_)
    repeat' (first
      | (show awpL _ _ _ _ _; first | refine goL ?_ | refine cl 129 tt rfl rfl rfl (hr := ta) (k := ?_) | refine cl 129 tt rfl rfl rfl (hr := tb) (k := ?_) | refine cl 161 tt rfl rfl rfl (hr := hd) (k := ?_) | refine cl 115 tt rfl rfl rfl (hr := ha) (k := ?_) | refine cl 135 tt rfl rfl rfl (hr := hs) (k := ?_) | refine cl 114 tt rfl rfl rfl (hr := ref02_signed _ _ (by omega)) (k := ?_) | (refine gdLG ?_ ?_ <;> intro _ <;> try (exfalso; omega)))
      | (show awp _ _ _ _; first | refine goA ?_ | refine rg 1 3 ?_ | (refine cdG ?_ ?_ <;> intro _ <;> try (exfalso; omega)))
      | (show andThen _ _ _ _; refine goN ?_)
      | (show inBlock _ _ _ _; refine goB ?_)
      | (show awpR _ _ _ _ _ _ _; first | refine goR ?_ | refine clR 129 tt rfl rfl rfl (hr := ta) (k := ?_) | refine clR 129 tt rfl rfl rfl (hr := tb) (k := ?_) | refine clR 161 tt rfl rfl rfl (hr := hd) (k := ?_) | refine clR 115 tt rfl rfl rfl (hr := ha) (k := ?_) | refine clR 135 tt rfl rfl rfl (hr := hs) (k := ?_) | refine clR 114 tt rfl rfl rfl (hr := ref02_signed _ _ (by omega)) (k := ?_) | (refine gdRG ?_ ?_ <;> intro _ <;> try (exfalso; omega)))
      | (show retPost _ _ _ _ _; refine finG ?_))
    · refine divz (q := -(q:Int)) (r := (r:Int)) ?_ ?_ ?_
      · rw [e2, f2]; (try simp only [Int.neg_mul, Int.mul_neg, Int.neg_neg, Int.mul_add, Int.mul_one, Int.natCast_add, Int.natCast_one]); omega
      · omega
      · omega
  · simp only [Bool.false_eq_true, if_true, if_false] at e2 f2
    refine ret_of_awp tab Tryz.func133 rfl rfl (Nat.le_of_ble_eq_true rfl) (fun w0 F0 => ?_)
    repeat' (first
      | (show awpL _ _ _ _ _; first | refine goL ?_ | refine cl 129 tt rfl rfl rfl (hr := ta) (k := ?_) | refine cl 129 tt rfl rfl rfl (hr := tb) (k := ?_) | refine cl 161 tt rfl rfl rfl (hr := hd) (k := ?_) | refine cl 115 tt rfl rfl rfl (hr := ha) (k := ?_) | refine cl 135 tt rfl rfl rfl (hr := hs) (k := ?_) | refine cl 114 tt rfl rfl rfl (hr := ref02_signed _ _ (by omega)) (k := ?_) | (refine gdLG ?_ ?_ <;> intro _ <;> try (exfalso; omega)))
      | (show awp _ _ _ _; first | refine goA ?_ | refine rg 1 3 ?_ | (refine cdG ?_ ?_ <;> intro _ <;> try (exfalso; omega)))
      | (show andThen _ _ _ _; refine goN ?_)
      | (show inBlock _ _ _ _; refine goB ?_)
      | (show awpR _ _ _ _ _ _ _; first | refine goR ?_ | refine clR 129 tt rfl rfl rfl (hr := ta) (k := ?_) | refine clR 129 tt rfl rfl rfl (hr := tb) (k := ?_) | refine clR 161 tt rfl rfl rfl (hr := hd) (k := ?_) | refine clR 115 tt rfl rfl rfl (hr := ha) (k := ?_) | refine clR 135 tt rfl rfl rfl (hr := hs) (k := ?_) | refine clR 114 tt rfl rfl rfl (hr := ref02_signed _ _ (by omega)) (k := ?_) | (refine gdRG ?_ ?_ <;> intro _ <;> try (exfalso; omega)))
      | (show retPost _ _ _ _ _; refine finG ?_))
    · rename_i hc
      refine divz (q := -((q+1:Nat):Int)) (r := ((b-r:Nat):Int)) ?_ ?_ ?_
      · rw [e2, f2]; (try simp only [Int.neg_mul, Int.mul_neg, Int.neg_neg, Int.mul_add, Int.mul_one, Int.natCast_add, Int.natCast_one]); omega
      · omega
      · omega
    · rename_i hc
      have hc0 : r = 0 := hz.1 (by omega)
      refine divz (q := -(q:Int)) (r := (r:Int)) ?_ ?_ ?_
      · rw [e2, f2]; (try simp only [Int.neg_mul, Int.mul_neg, Int.neg_neg, Int.mul_add, Int.mul_one, Int.natCast_add, Int.natCast_one]); omega
      · omega
      · omega
  · simp only [Bool.false_eq_true, if_true, if_false] at e2 f2
    refine ret_of_awp tab Tryz.func133 rfl rfl (Nat.le_of_ble_eq_true rfl) (fun w0 F0 => ?_)
    repeat' (first
      | (show awpL _ _ _ _ _; first | refine goL ?_ | refine cl 129 tt rfl rfl rfl (hr := ta) (k := ?_) | refine cl 129 tt rfl rfl rfl (hr := tb) (k := ?_) | refine cl 161 tt rfl rfl rfl (hr := hd) (k := ?_) | refine cl 115 tt rfl rfl rfl (hr := ha) (k := ?_) | refine cl 135 tt rfl rfl rfl (hr := hs) (k := ?_) | refine cl 114 tt rfl rfl rfl (hr := ref02_signed _ _ (by omega)) (k := ?_) | (refine gdLG ?_ ?_ <;> intro _ <;> try (exfalso; omega)))
      | (show awp _ _ _ _; first | refine goA ?_ | refine rg 1 3 ?_ | (refine cdG ?_ ?_ <;> intro _ <;> try (exfalso; omega)))
      | (show andThen _ _ _ _; refine goN ?_)
      | (show inBlock _ _ _ _; refine goB ?_)
      | (show awpR _ _ _ _ _ _ _; first | refine goR ?_ | refine clR 129 tt rfl rfl rfl (hr := ta) (k := ?_) | refine clR 129 tt rfl rfl rfl (hr := tb) (k := ?_) | refine clR 161 tt rfl rfl rfl (hr := hd) (k := ?_) | refine clR 115 tt rfl rfl rfl (hr := ha) (k := ?_) | refine clR 135 tt rfl rfl rfl (hr := hs) (k := ?_) | refine clR 114 tt rfl rfl rfl (hr := ref02_signed _ _ (by omega)) (k := ?_) | (refine gdRG ?_ ?_ <;> intro _ <;> try (exfalso; omega)))
      | (show retPost _ _ _ _ _; refine finG ?_))
    · rename_i hc
      refine divz (q := ((q+1:Nat):Int)) (r := ((b-r:Nat):Int)) ?_ ?_ ?_
      · rw [e2, f2]; (try simp only [Int.neg_mul, Int.mul_neg, Int.neg_neg, Int.mul_add, Int.mul_one, Int.natCast_add, Int.natCast_one]); omega
      · omega
      · omega
    · rename_i hc
      have hc0 : r = 0 := hz.1 (by omega)
      refine divz (q := (q:Int)) (r := (r:Int)) ?_ ?_ ?_
      · rw [e2, f2]; (try simp only [Int.neg_mul, Int.mul_neg, Int.neg_neg, Int.mul_add, Int.mul_one, Int.natCast_add, Int.natCast_one]); omega
      · omega
      · omega

end Go.Proofs.YtlphlodailailaaGreat

/-
  Rational numbers as the program holds them; rows, tables, strings. Conditions: none.
-/
namespace Go.Vw

abbrev R3 := Bool × List Nat × List Nat
@[reducible] def rC (r : R3) : List D := [.bool r.1, u32s r.2.1, u32s r.2.2]
@[reducible] def rD (r : R3) : D := .agg (rC r)
@[reducible] def r0 : R3 := (false, [], [])
@[reducible] def rsD (l : List R3) : D := .sl 3 rC r0 l
@[reducible] def eR (l : List R3) : List D := [rsD l]
@[reducible] def rssD (l : List (List R3)) : D := .sl 1 eR [] l
@[reducible] def eS (b : List UInt8) : List D := [.str b]
@[reducible] def strsD (l : List (List UInt8)) : D := .sl 1 eS [] l

def zR (z : Int) : R3 := (decide (z < 0), limbs z.natAbs, [])
theorem take_ext {α : Type} {a b : List α} {i : Nat} (z : α) (h : a.take i = b.take i) (h1 : i < a.length) (h2 : i < b.length) (e : a.getD i z = b.getD i z) : a.take (i + 1) = b.take (i + 1) := by
  rw [List.take_add_one, List.take_add_one, h]
  simp [List.getD, h1, h2] at e
  simp [h1, h2, e]
end Go.Vw

namespace Go.Proofs.YtlphlodailailaaGreat
open Go.Vw
attribute [local irreducible] awp awpL awpR

theorem ref03_FromInt (v : Int) (h1 : -9223372036854775808 ≤ v) (h2 : v < 9223372036854775808) : Ret Tryz.prog 31 [.int .i64 v] (· = rD (zR v)) := by
  refine ret_of_awp tab Tryz.func31 rfl rfl (Nat.le_of_ble_eq_true rfl) (fun w0 F0 => ?_)
  repeat' (first
    | (show awpL _ _ _ _ _; first | refine goL ?_ | refine cl 78 tt rfl rfl rfl (hr := ref02_FromInt v h1 h2) (k := ?_) | (refine gdLG ?_ ?_ <;> intro _ <;> try (exfalso; omega)))
    | (show awp _ _ _ _; first | refine goA ?_ | (refine cdG ?_ ?_ <;> intro _ <;> try (exfalso; omega)))
    | (show andThen _ _ _ _; refine goN ?_)
    | (show inBlock _ _ _ _; refine goB ?_)
    | (show retPost _ _ _ _ _; first | refine finF true rfl rfl sc ?_ | refine finF false rfl rfl sc ?_ | refine finC false rfl rfl sc sc ?_ | refine finN rfl rfl sc ?_ | refine finL true rfl rfl sc rfl (LeR.cons rfl leL LeR.nil) ?_ | refine finA true rfl rfl sc ?_ | refine finA false rfl rfl sc ?_ | refine finE true rfl rfl sc ?_ | refine finE false rfl rfl sc ?_))
  exact leL

def okR (k : Nat) (r : R3) : Prop := r.2.1.length < k ∧ r.2.2.length < k

theorem ref03_Same (r t : R3) (h1 : okR 1000000000000 r) (h2 : okR 1000000000000 t) : Ret Tryz.prog 29 [rD r, rD t] (· = .bool (decide (r = t))) := by
  obtain ⟨n1, m1, d1⟩ := r
  obtain ⟨n2, m2, d2⟩ := t
  obtain ⟨h1, h1'⟩ := h1
  obtain ⟨h2, h2'⟩ := h2
  have hs := ref02_Same n1 n2 m1 m2 h1 h2
  have ht := ref01_Same d1 d2 (Nat.lt_trans h1' (by decide)) (Nat.lt_trans h2' (by decide))
  by_cases h : n1 = n2 ∧ m1 = m2
  · rw [decide_eq_true h] at hs
    refine ret_of_awp tab Tryz.func29 rfl rfl (Nat.le_of_ble_eq_true rfl) (fun w0 F0 => ?_)
    repeat' (first
      | (show awpL _ _ _ _ _; first | refine goL ?_ | refine cl 76 tt rfl rfl rfl (hr := hs) (k := ?_) | refine cl 77 tt rfl rfl rfl (hr := ht) (k := ?_) | (refine gdLG ?_ ?_ <;> intro _ <;> try (exfalso; omega)))
      | (show awp _ _ _ _; first | refine goA ?_ | (refine cdG ?_ ?_ <;> intro _ <;> try (exfalso; omega)))
      | (show andThen _ _ _ _; refine goN ?_)
      | (show inBlock _ _ _ _; refine goB ?_)
      | (show retPost _ _ _ _ _; refine finG ?_))
    simp [h]
  · rw [decide_eq_false h] at hs
    refine ret_of_awp tab Tryz.func29 rfl rfl (Nat.le_of_ble_eq_true rfl) (fun w0 F0 => ?_)
    repeat' (first
      | (show awpL _ _ _ _ _; first | refine goL ?_ | refine cl 76 tt rfl rfl rfl (hr := hs) (k := ?_) | refine cl 77 tt rfl rfl rfl (hr := ht) (k := ?_) | (refine gdLG ?_ ?_ <;> intro _ <;> try (exfalso; omega)))
      | (show awp _ _ _ _; first | refine goA ?_ | (refine cdG ?_ ?_ <;> intro _ <;> try (exfalso; omega)))
      | (show andThen _ _ _ _; refine goN ?_)
      | (show inBlock _ _ _ _; refine goB ?_)
      | (show retPost _ _ _ _ _; refine finG ?_))
    all_goals simp
    all_goals intro g1 g2; exact absurd ⟨g1, g2⟩ h

theorem ref03_SameList (a b : List R3) (hla : a.length < 1000000000000) (hlb : b.length < 1000000000000) (ha : ∀ r ∈ a, okR 1000000000000 r) (hb : ∀ r ∈ b, okR 1000000000000 r) : Ret Tryz.prog 16 [rsD a, rsD b] (· = .bool (decide (a = b))) := by
  refine ret_of_awp tab Tryz.func16 rfl rfl (Nat.le_of_ble_eq_true rfl) (fun w0 F0 => ?_)
  repeat' (first
    | (show awpL _ _ _ _ _; first | refine goL ?_ | (refine gdLG ?_ ?_ <;> intro _ <;> try (exfalso; omega)))
    | (show awp _ _ _ _; first | refine goA ?_ | refine rg 6 8 ?_ | (refine cdG ?_ ?_ <;> intro _ <;> try (exfalso; omega)))
    | (show andThen _ _ _ _; refine goN ?_)
    | (show inBlock _ _ _ _; refine goB ?_)
    | (show awpR _ _ _ _ _ _ _; first | refine goR ?_ | (refine gdRG ?_ ?_ <;> intro _ <;> try (exfalso; omega)))
    | (show retPost _ _ _ _ _; refine finG ?_))
  · rename_i h
    rw [decide_eq_false (fun e => h (by rw [e]))]
  rename_i h
  refine awp_loop1 (fun (i : Nat) => ([(0, .d (rsD a)), (1, .d (rsD b)), (5, .d (.int .i64 i))], [])) (fun i => i ≤ a.length ∧ a.take i = b.take i) (fun i => a.length - i) 0 ⟨by simp, by simp⟩ ⟨rfl, rfl, rfl, rfl⟩ trivial (fun i hi => ?_)
  obtain ⟨h1, h2⟩ := hi
  by_cases h3 : i < a.length
  · have i2 : i < b.length := by omega
    have g1 : a.getD i r0 ∈ a := by rw [List.getD, List.getElem?_eq_getElem h3]; exact List.getElem_mem h3
    have g2 : b.getD i r0 ∈ b := by rw [List.getD, List.getElem?_eq_getElem i2]; exact List.getElem_mem i2
    have hs := ref03_Same _ _ (ha _ g1) (hb _ g2)
    repeat' (first
      | (show awpL _ _ _ _ _; first | refine goL ?_ | refine cl 29 tt rfl rfl rfl (hr := hs) (k := ?_) | (refine gdLG ?_ ?_ <;> intro _ <;> try (exfalso; omega)))
      | (show awp _ _ _ _; first | refine goA ?_ | refine rg 6 8 ?_ | (refine cdG ?_ ?_ <;> intro _ <;> try (exfalso; omega)))
      | (show andThen _ _ _ _; refine goN ?_)
      | (show inBlock _ _ _ _; refine goB ?_)
      | (show awpR _ _ _ _ _ _ _; first | refine goR ?_ | refine clR 29 tt rfl rfl rfl (hr := hs) (k := ?_) | (refine gdRG ?_ ?_ <;> intro _ <;> try (exfalso; omega)))
      | (show retPost _ _ _ _ _; refine finG ?_))
    · rename_i e
      rw [decide_eq_false (fun e' => by subst e'; exact e rfl)]
    · rename_i e
      exact ⟨i + 1, ⟨by omega, take_ext r0 h2 (by omega) (by omega) e⟩, by omega, ⟨rfl, rfl, iv (by omega), rfl⟩, trivial⟩
  · repeat' (first
      | (show awpL _ _ _ _ _; first | refine goL ?_ | (refine gdLG ?_ ?_ <;> intro _ <;> try (exfalso; omega)))
      | (show awp _ _ _ _; first | refine goA ?_ | refine rg 6 8 ?_ | (refine cdG ?_ ?_ <;> intro _ <;> try (exfalso; omega)))
      | (show andThen _ _ _ _; refine goN ?_)
      | (show inBlock _ _ _ _; refine goB ?_)
      | (show awpR _ _ _ _ _ _ _; first | refine goR ?_ | (refine gdRG ?_ ?_ <;> intro _ <;> try (exfalso; omega)))
      | (show retPost _ _ _ _ _; refine finG ?_))
    rw [List.take_of_length_le (by omega), List.take_of_length_le (by omega)] at h2
    rw [decide_eq_true h2]

end Go.Proofs.YtlphlodailailaaGreat

namespace Go.Proofs.YtlphlodailailaaGreat
open Go.Vw
attribute [local irreducible] awp awpL awpR

theorem natural_trimmed (l : List Nat) (hl : l.length < 10000000000000) : Ret Tryz.prog 156 [u32s l] (· = u32s (trimL l)) := by
  refine ret_of_awp tab Tryz.func156 rfl rfl (Nat.le_of_ble_eq_true rfl) (fun w0 F0 => ?_)
  repeat' (first
    | (show awpL _ _ _ _ _; first | refine goL ?_ | (refine gdLG ?_ ?_ <;> intro _ <;> try (exfalso; omega)))
    | (show awp _ _ _ _; first | refine goA ?_ | (refine cdG ?_ ?_ <;> intro _ <;> try (exfalso; omega)))
    | (show andThen _ _ _ _; refine goN ?_)
    | (show inBlock _ _ _ _; refine goB ?_)
    | (show retPost _ _ _ _ _; refine finG ?_))
  refine awp_loop1 (fun n : Nat => ([(0, .d (u32s l)), (3, .d (.int .i64 n))], [])) (fun n => n ≤ l.length ∧ trimL (l.take n) = trimL l) (fun n => n) l.length ⟨by omega, by simp⟩ ⟨rfl, rfl, rfl⟩ trivial (fun n hi => ?_)
  obtain ⟨h1, h2⟩ := hi
  have e : 0 < n → (l.take n).getD ((l.take n).length - 1) 0 = l.getD (n - 1) 0 := fun hn => by
    simp [List.getD, List.length_take, Nat.min_eq_left h1, List.getElem?_take, show n - 1 < n by omega, List.getElem?_eq_getElem (show n - 1 < l.length by omega)]
  have hlen : (l.take n).length = n := by simp; omega
  repeat' (first
    | (show awpL _ _ _ _ _; first | refine goL ?_ | (refine gdLG ?_ ?_ <;> intro _ <;> try (exfalso; omega)))
    | (show awp _ _ _ _; first | refine goA ?_ | (refine cdG ?_ ?_ <;> intro _ <;> try (exfalso; omega)))
    | (show andThen _ _ _ _; refine goN ?_)
    | (show inBlock _ _ _ _; refine goB ?_)
    | (show retPost _ _ _ _ _; refine finG ?_))
  · rename_i h3 h4
    refine ⟨n - 1, ⟨by omega, ?_⟩, by omega, ⟨rfl, iv (by omega), rfl⟩, trivial⟩
    rw [← h2, ← trimL_last (m := l.take n) (by omega) (by rw [e (by omega), ← show ((n : Int) - 1).toNat = n - 1 by omega]; omega), hlen, List.take_take, Nat.min_eq_left (by omega)]
  · rename_i h3 h4
    rw [← h2, trimL_done (by rw [e (by omega), ← show ((n : Int) - 1).toNat = n - 1 by omega]; omega)]
  · rename_i h3
    have : n = 0 := by omega
    subst this
    rw [← h2]; rfl
theorem natural_FromUint (i : Int) (v : Nat) (e : i = v) (h : v < 18446744073709551616) : Ret Tryz.prog 166 [.int .u64 i] (· = u32s (limbs v)) := by
  subst e
  have ht := natural_trimmed [v % 4294967296, v / 4294967296] (by simp)
  rw [two_limbs v h] at ht
  refine ret_of_awp tab Tryz.func166 rfl rfl (Nat.le_of_ble_eq_true rfl) (fun w0 F0 => ?_)
  repeat' (first
    | (show awpL _ _ _ _ _; first | refine goL ?_ | refine cl 156 tt rfl rfl rfl (hr := ht) (k := ?_) | (refine gdLG ?_ ?_ <;> intro _ <;> try (exfalso; omega)))
    | (show awp _ _ _ _; first | refine goA ?_ | (refine cdG ?_ ?_ <;> intro _ <;> try (exfalso; omega)))
    | (show andThen _ _ _ _; refine goN ?_)
    | (show inBlock _ _ _ _; refine goB ?_)
    | (show retPost _ _ _ _ _; refine finG ?_))
  rfl
theorem integer_signed (neg : Bool) (n : Nat) (hl : (limbs n).length < 1000000000000) : Ret Tryz.prog 151 [.bool neg, u32s (limbs n)] (· = zD (if neg then -(n : Int) else n)) := by
  rw [← signed_z]
  cases neg with
  | false => 
    refine ret_of_awp tab Tryz.func151 rfl rfl (Nat.le_of_ble_eq_true rfl) (fun w0 F0 => ?_)
    repeat' (first
      | (show awpL _ _ _ _ _; first | refine goL ?_ | (refine gdLG ?_ ?_ <;> intro _ <;> try (exfalso; omega)))
      | (show awp _ _ _ _; first | refine goA ?_ | (refine cdG ?_ ?_ <;> intro _ <;> try (exfalso; omega)))
      | (show andThen _ _ _ _; refine goN ?_)
      | (show inBlock _ _ _ _; refine goB ?_)
      | (show retPost _ _ _ _ _; refine finG ?_))
    rfl
  | true =>
    refine ret_of_awp tab Tryz.func151 rfl rfl (Nat.le_of_ble_eq_true rfl) (fun w0 F0 => ?_)
    repeat' (first
      | (show awpL _ _ _ _ _; first | refine goL ?_ | (refine gdLG ?_ ?_ <;> intro _ <;> try (exfalso; omega)))
      | (show awp _ _ _ _; first | refine goA ?_ | (refine cdG ?_ ?_ <;> intro _ <;> try (exfalso; omega)))
      | (show andThen _ _ _ _; refine goN ?_)
      | (show inBlock _ _ _ _; refine goB ?_)
      | (show retPost _ _ _ _ _; refine finG ?_))
    simp; rfl
theorem integer_FromInt (v : Int) (h1 : -9223372036854775808 ≤ v) (h2 : v < 9223372036854775808) : Ret Tryz.prog 141 [.int .i64 v] (· = zD v) := by
  by_cases h : v < 0
  · have l1 := u64_len (v := v.natAbs) (by omega)
    refine ret_of_awp tab Tryz.func141 rfl rfl (Nat.le_of_ble_eq_true rfl) (fun w0 F0 => ?_)
    repeat' (first
      | (show awpL _ _ _ _ _; first | refine goL ?_ | refine cl 166 tt rfl rfl rfl (hr := natural_FromUint _ v.natAbs (by omega) (by omega)) (k := ?_) | refine cl 151 tt rfl rfl rfl (hr := integer_signed true _ (by omega)) (k := ?_) | (refine gdLG ?_ ?_ <;> intro _ <;> try (exfalso; omega)))
      | (show awp _ _ _ _; first | refine goA ?_ | (refine cdG ?_ ?_ <;> intro _ <;> try (exfalso; omega)))
      | (show andThen _ _ _ _; refine goN ?_)
      | (show inBlock _ _ _ _; refine goB ?_)
      | (show retPost _ _ _ _ _; refine finG ?_))
    refine congrArg zD ?_
    simp only [if_true]; omega
  · have l1 := u64_len (v := v.natAbs) (by omega)
    refine ret_of_awp tab Tryz.func141 rfl rfl (Nat.le_of_ble_eq_true rfl) (fun w0 F0 => ?_)
    repeat' (first
      | (show awpL _ _ _ _ _; first | refine goL ?_ | refine cl 166 tt rfl rfl rfl (hr := natural_FromUint _ v.natAbs (by omega) (by omega)) (k := ?_) | refine cl 151 tt rfl rfl rfl (hr := integer_signed false _ (by omega)) (k := ?_) | (refine gdLG ?_ ?_ <;> intro _ <;> try (exfalso; omega)))
      | (show awp _ _ _ _; first | refine goA ?_ | (refine cdG ?_ ?_ <;> intro _ <;> try (exfalso; omega)))
      | (show andThen _ _ _ _; refine goN ?_)
      | (show inBlock _ _ _ _; refine goB ?_)
      | (show retPost _ _ _ _ _; refine finG ?_))
    refine congrArg zD ?_
    simp only [Bool.false_eq_true, if_false]; omega
theorem rational_FromInt (v : Int) (h1 : -9223372036854775808 ≤ v) (h2 : v < 9223372036854775808) : Ret Tryz.prog 100 [.int .i64 v] (· = rD (zR v)) := by
  refine ret_of_awp tab Tryz.func100 rfl rfl (Nat.le_of_ble_eq_true rfl) (fun w0 F0 => ?_)
  repeat' (first
    | (show awpL _ _ _ _ _; first | refine goL ?_ | refine cl 141 tt rfl rfl rfl (hr := integer_FromInt v h1 h2) (k := ?_) | (refine gdLG ?_ ?_ <;> intro _ <;> try (exfalso; omega)))
    | (show awp _ _ _ _; first | refine goA ?_ | (refine cdG ?_ ?_ <;> intro _ <;> try (exfalso; omega)))
    | (show andThen _ _ _ _; refine goN ?_)
    | (show inBlock _ _ _ _; refine goB ?_)
    | (show retPost _ _ _ _ _; first | refine finF true rfl rfl sc ?_ | refine finF false rfl rfl sc ?_ | refine finC false rfl rfl sc sc ?_ | refine finN rfl rfl sc ?_ | refine finL true rfl rfl sc rfl (LeR.cons rfl leL LeR.nil) ?_ | refine finA true rfl rfl sc ?_ | refine finA false rfl rfl sc ?_ | refine finE true rfl rfl sc ?_ | refine finE false rfl rfl sc ?_))
  exact leL
end Go.Proofs.YtlphlodailailaaGreat

/-
  Contracts of functions that are lent blocks of the caller's own, write into them, and hand back new ones. Conditions: the table of types is the program's.
-/
set_option linter.unusedSectionVars false
namespace Go.Vw
open Go.RowKit

mutual
def V.refs : V → List Nat
  | .own k _ _ _ _ => [k]
  | .ptr k _ => [k]
  | .eptr k _ _ _ => [k]
  | .agg cs => V.refsL cs
  | .tup cs => V.refsL cs
  | .fn _ cs => V.refsL cs
  | .d _ => []
def V.refsL : List V → List Nat
  | [] => []
  | x :: xs => V.refs x ++ V.refsL xs
end

section
variable {io io' : Keys} {F : Nat → Prop} {w : World}
mutual
theorem VR.agree : ∀ (x : V) (v : Value), (∀ k ∈ x.refs, io'.io k = io.io k ∧ io.ln k ≤ io'.ln k) → VR io F w x v → VR io' F w x v
  | .d x, v, _, h => by simp only [VR] at h ⊢; exact h
  | .own k o n ty sz, v, hk, h => by
      simp only [VR] at h ⊢
      obtain ⟨e1, e2⟩ := hk k (by simp [V.refs])
      rw [e1]
      rcases h with h | ⟨b, cap, arr, h1, h2, h3, h4, h5, h6, h7⟩
      · exact .inl h
      · exact .inr ⟨b, cap, arr, h1, h2, h3, h4, h5, h6, Nat.le_trans h7 e2⟩
  | .ptr k off, v, hk, h => by simp only [VR] at h ⊢; rw [(hk k (by simp [V.refs])).1]; exact h
  | .eptr k sz i f, v, hk, h => by simp only [VR] at h ⊢; rw [(hk k (by simp [V.refs])).1]; exact h
  | .agg cs, v, hk, h => by simp only [VR] at h ⊢; obtain ⟨a, e, l, h⟩ := h; exact ⟨a, e, l, VRA.agree cs _ _ (by simpa only [V.refs] using hk) h⟩
  | .tup cs, v, hk, h => by simp only [VR] at h ⊢; obtain ⟨a, e, l, h⟩ := h; exact ⟨a, e, l, VRT.agree cs _ _ (by simpa only [V.refs] using hk) h⟩
  | .fn f cs, v, hk, h => by simp only [VR] at h ⊢; obtain ⟨a, e, l, h⟩ := h; exact ⟨a, e, l, VRA.agree cs _ _ (by simpa only [V.refs] using hk) h⟩
theorem VRA.agree : ∀ (xs : List V) (g : Nat → Option Value) (off : Nat), (∀ k ∈ V.refsL xs, io'.io k = io.io k ∧ io.ln k ≤ io'.ln k) → VRA io F w g off xs → VRA io' F w g off xs
  | [], _, _, _, _ => by simp only [VRA]
  | x :: xs, g, off, hk, h => by
      simp only [V.refsL, List.mem_append] at hk
      simp only [VRA] at h ⊢
      obtain ⟨⟨v, e, h0, h1⟩, h2⟩ := h
      exact ⟨⟨v, e, h0, VR.agree x v (fun k h => hk k (.inl h)) h1⟩, VRA.agree xs _ _ (fun k h => hk k (.inr h)) h2⟩
theorem VRT.agree : ∀ (xs : List V) (g : Nat → Option Value) (off : Nat), (∀ k ∈ V.refsL xs, io'.io k = io.io k ∧ io.ln k ≤ io'.ln k) → VRT io F w g off xs → VRT io' F w g off xs
  | [], _, _, _, _ => by simp only [VRT]
  | x :: xs, g, off, hk, h => by
      simp only [V.refsL, List.mem_append] at hk
      simp only [VRT] at h ⊢
      obtain ⟨⟨v, e, h1⟩, h2⟩ := h
      exact ⟨⟨v, e, VR.agree x v (fun k h => hk k (.inl h)) h1⟩, VRT.agree xs _ _ (fun k h => hk k (.inr h)) h2⟩
end
end

def lnO (B : Nat → Option Blk) (k : Nat) : Nat := match B k with | some b => b.ln | none => 0
theorem lnO_eq (s : St) : s.ln = lnO s.blk := by
  funext k
  unfold lnO
  split
  · rename_i b h; exact ln_of h
  · rename_i h; simp [St.ln, h]
theorem lnO_of {B : Nat → Option Blk} {k : Nat} {b : Blk} (h : B k = some b) : lnO B k = b.ln := by unfold lnO; rw [h]
def OwnA (B : Nat → Option Blk) (io : Nat → Option Nat) : Nat → Prop := fun b => ∃ k, B k ≠ none ∧ io k = some b
structure BsR (A : Nat → Prop) (n0 : Nat) (io : Nat → Option Nat) (F : Nat → Prop) (w : World) (B : Nat → Option Blk) : Prop where
  br : ∀ k b, B k = some b → BR A n0 ⟨io, lnO B⟩ F w k b
  inj : ∀ k k' b, B k ≠ none → B k' ≠ none → io k = some b → io k' = some b → k = k'

def Blk.refs : Blk → List Nat
  | .data _ _ _ _ _ => []
  | .box _ cs => V.refsL cs
  | .hole _ _ _ _ _ _ v => v.refs

structure RetB (P : Program) (f : FuncId) (xs : List V) (B : Nat → Option Blk) (y : V) (B' : Nat → Option Blk) : Prop where
  enters : Enters P f
  keep : ∀ k, B k ≠ none → B' k ≠ none
  ln : ∀ k, B k ≠ none → lnO B k ≤ lnO B' k
  refs : ∀ k ∈ y.refs, B' k ≠ none
  refsB : ∀ k b, B' k = some b → ∀ j ∈ b.refs, B' j ≠ none
  run : ∀ (io : Nat → Option Nat) (F : Nat → Prop) (w : World) (vs : Array Value), (∀ b, F b → b < w.heap.size) → vs.size = xs.length → VRT ⟨io, lnO B⟩ F w (fun i => vs[i]?) 0 xs → BsR (OwnA B io) w.heap.size io F w B →
    Calls P f vs w fun e w' => ∃ v io' F', e = .returned v ∧ Kept (OwnA B io) w w' ∧ (∀ b, F b → F' b) ∧ (∀ b, F' b → b < w'.heap.size ∧ (F b ∨ w.heap.size ≤ b ∨ OwnA B io b)) ∧ (∀ k, B k ≠ none → io' k = io k) ∧ VR ⟨io', lnO B'⟩ F' w' y v ∧ BsR (OwnA B io) w.heap.size io' F' w' B'

theorem BR.notF {A : Nat → Prop} {n0 : Nat} {io : Keys} {F : Nat → Prop} {w : World} {k : Nat} {b : Blk} (h : BR A n0 io F w k b) {c : Nat} (e : io.io k = some c) : ¬ F c ∧ (A c ∨ n0 ≤ c) ∧ c < w.heap.size := by
  cases b with
  | data ty sz en z l =>
    simp only [BR] at h
    rcases h with ⟨h0, _⟩ | ⟨c', arr, g1, g2, g3, g4, _⟩
    · rw [h0] at e; cases e
    · rw [g1] at e; cases e; exact ⟨g2, g3, lt_of_heap g4⟩
  | box ty cells =>
    simp only [BR] at h
    obtain ⟨c', arr, g1, g2, g3, g4, _⟩ := h
    rw [g1] at e; cases e; exact ⟨g2, g3, lt_of_heap g4⟩
  | hole ty sz en z l i v =>
    simp only [BR] at h
    obtain ⟨c', arr, g1, g2, g3, g4, _⟩ := h
    rw [g1] at e; cases e; exact ⟨g2, g3, lt_of_heap g4⟩

theorem BR.agree {A A' : Nat → Prop} {n0 n0' : Nat} {io io' : Keys} {F : Nat → Prop} {w : World} {k : Nat} (hA : ∀ c, A c ∨ n0 ≤ c → A' c ∨ n0' ≤ c) (hk : io'.io k = io.io k) : ∀ {b : Blk}, (∀ j ∈ b.refs, io'.io j = io.io j ∧ io.ln j ≤ io'.ln j) → BR A n0 io F w k b → BR A' n0' io' F w k b
  | .data ty sz e z l, _, h => by
    simp only [BR] at h ⊢
    rw [hk]
    rcases h with h | ⟨b, arr, h1, h2, h3, h4, h5⟩
    · exact .inl h
    · exact .inr ⟨b, arr, h1, h2, hA _ h3, h4, h5⟩
  | .box ty cells, hj, h => by
    simp only [BR] at h ⊢
    rw [hk]
    obtain ⟨b, arr, h1, h2, h3, h4, h5⟩ := h
    exact ⟨b, arr, h1, h2, hA _ h3, h4, VRA.agree _ _ _ (by simpa only [Blk.refs] using hj) h5⟩
  | .hole ty sz e z l i v, hj, h => by
    simp only [BR] at h ⊢
    rw [hk]
    obtain ⟨b, arr, h1, h2, h3, h4, h5⟩ := h
    obtain ⟨q0, q1, u, q2, q2', q3⟩ := h5
    exact ⟨b, arr, h1, h2, hA _ h3, h4, q0, q1, u, q2, q2', VR.agree _ _ (by simpa only [Blk.refs] using hj) q3⟩

/-! ## Calling -/

def St.subs (s : St) : List Nat → St
  | [] => s
  | k :: r => (St.subs s r).sub k none
def ioSubs (io io' : Nat → Option Nat) : List Nat → Nat → Option Nat
  | [] => io
  | k :: r => updio (ioSubs io io' r) k (io' k)
theorem ioSubs_of (io io' : Nat → Option Nat) : ∀ (ks : List Nat) (k : Nat), (k ∈ ks → ioSubs io io' ks k = io' k) ∧ (k ∉ ks → ioSubs io io' ks k = io k)
  | [], k => ⟨fun h => by simp at h, fun _ => rfl⟩
  | a :: r, k => by
    obtain ⟨h1, h2⟩ := ioSubs_of io io' r k
    by_cases e : k = a
    · subst e
      exact ⟨fun _ => updio_same _ _ _, fun h => by simp at h⟩
    · refine ⟨fun h => ?_, fun h => ?_⟩
      · rw [ioSubs, updio_ne _ _ e]; exact h1 (by simpa [e] using h)
      · rw [ioSubs, updio_ne _ _ e]; exact h2 (fun h' => h (by simp [h']))
theorem SR.subs {X : Ctx} {io : Nat → Option Nat} {F : Nat → Prop} {s : St} {a : Act} {w : World} (hs : SR X io F s a w) (io' : Nat → Option Nat) : ∀ (ks : List Nat), (∀ k ∈ ks, k ∉ X.K) → SR X (ioSubs io io' ks) F (s.subs ks) a w
  | [], _ => hs
  | k :: r, h => (SR.subs hs io' r fun j hj => h j (by simp [hj])).kill k (io' k) (h k (by simp))
theorem subs_blk {s : St} : ∀ (ks : List Nat) {j : Nat} {b : Blk}, (s.subs ks).blk j = some b → j ∉ ks ∧ ∃ b0, s.blk j = some b0
  | [], j, b, h => ⟨by simp, b, h⟩
  | k :: r, j, b, h => by
    obtain ⟨hne, b0, h0, _⟩ := sub_blk h
    obtain ⟨h1, h2⟩ := subs_blk r h0
    exact ⟨by simp [hne, h1], h2⟩
theorem subs_ln {s : St} : ∀ (ks : List Nat) {j : Nat}, (s.subs ks).ln j = if j ∈ ks then 0 else s.ln j
  | [], j => by simp [St.subs]
  | k :: r, j => by
    simp only [St.subs]
    by_cases e : j = k
    · subst e; rw [sub_ln_same]; simp
    · rw [sub_ln e, subs_ln r]; simp [e]

def St.over (s : St) (bs : List (Nat × Blk)) : St := { s with blk := fun k => match lookB bs k with | some b => some b | none => s.blk k }
theorem over_ln {s : St} {bs : List (Nat × Blk)} (j : Nat) : (s.over bs).ln j = if lookB bs j = none then s.ln j else lnO (lookB bs) j := by
  rw [lnO_eq]
  unfold lnO St.over
  simp only
  cases h : lookB bs j with
  | none => simp only [if_true]; rw [lnO_eq]; rfl
  | some b => simp

def LeVT (xs ys : List V) : Prop := ys.length = xs.length ∧ ∀ io F w g off, VRT io F w g off xs → VRT io F w g off ys
theorem LeVT.nil : LeVT [] [] := ⟨rfl, fun _ _ _ _ _ h => h⟩
theorem LeVT.cons {x : V} {xs ys : List V} (h : LeVT xs ys) : LeVT (x :: xs) (x :: ys) := ⟨by simp [h.1], fun io F w g off k => by
  simp only [VRT] at k ⊢; exact ⟨k.1, h.2 _ _ _ _ _ k.2⟩⟩
theorem LeVT.consD {x y : D} {xs ys : List V} (e : LeD x y) (h : LeVT xs ys) : LeVT (.d x :: xs) (.d y :: ys) := ⟨by simp [h.1], fun io F w g off k => by
  simp only [VRT, VR] at k ⊢; obtain ⟨⟨v, k1, k2⟩, k3⟩ := k; exact ⟨⟨v, k1, e _ _ _ k2⟩, h.2 _ _ _ _ _ k3⟩⟩

section
variable {X : Ctx} {all : Array Oper} {s : St} {o : Oper} {c : Call} {f : FuncId} {caps : List V}

theorem SR.afterB (fr : List Nat) {io : Nat → Option Nat} {F : Nat → Prop} {a : Act} {w : World} (hs : SR X io F s a w) {B : Nat → Option Blk} {bs' : List (Nat × Blk)} (hB : ∀ k b, B k = some b → s.blk k = some b) (hkeep : ∀ k, B k ≠ none → lookB bs' k ≠ none) (hlnm : ∀ k, B k ≠ none → lnO B k ≤ lnO (lookB bs') k) (hrefsB : ∀ k b, lookB bs' k = some b → ∀ j ∈ b.refs, lookB bs' j ≠ none) (hfr : ∀ k, lookB bs' k ≠ none → B k ≠ none ∨ k ∈ fr) (hfr2 : ∀ k ∈ fr, k ∉ X.K ∧ B k = none) {w' : World} {io' : Nat → Option Nat} {F' : Nat → Prop} (g1 : Kept (OwnA B io) w w') (g2 : ∀ b, F b → F' b) (g3 : ∀ b, F' b → b < w'.heap.size ∧ (F b ∨ w.heap.size ≤ b ∨ OwnA B io b)) (g4 : ∀ k, B k ≠ none → io' k = io k) (g6 : BsR (OwnA B io) w.heap.size io' F' w' (lookB bs')) :
    SR X (ioSubs io io' fr) F' ((s.subs fr).over bs') a w' ∧ ∀ k, lookB bs' k ≠ none → ioSubs io io' fr k = io' k ∧ lnO (lookB bs') k ≤ ((s.subs fr).over bs').ln k := by
  have hln : ∀ k, B k ≠ none → s.ln k ≤ lnO B k := fun k hk => by
    obtain ⟨b, hb⟩ := Option.ne_none_iff_exists'.1 hk
    rw [lnO_of hb, ln_of (hB k b hb)]; exact Nat.le_refl _
  have hs1 := hs.subs io' fr (fun k hk => (hfr2 k hk).1)
  have hio1 : ∀ k, lookB bs' k ≠ none → ioSubs io io' fr k = io' k := fun k hk => by
    by_cases e : k ∈ fr
    · exact (ioSubs_of io io' fr k).1 e
    · rw [(ioSubs_of io io' fr k).2 e]
      exact (g4 k ((hfr k hk).resolve_right e)).symm
  have hA : ∀ c, OwnA B io c → X.A c ∨ X.w0.heap.size ≤ c := fun c ⟨k, hk, e⟩ => by
    obtain ⟨b, hb⟩ := Option.ne_none_iff_exists'.1 hk
    exact ((hs.bl k b (hB k b hb)).notF e).2.1
  have hAF : ∀ c, OwnA B io c → ¬ F c := fun c ⟨k, hk, e⟩ => by
    obtain ⟨b, hb⟩ := Option.ne_none_iff_exists'.1 hk
    exact ((hs.bl k b (hB k b hb)).notF e).1
  have hArea : ∀ c, OwnA B io c ∨ w.heap.size ≤ c → X.A c ∨ X.w0.heap.size ≤ c := fun c h => h.elim (hA c) (fun h => .inr (Nat.le_trans hs.kept.size h))
  have hst : Stays F w w' := fun b h => g1.block b (hs.ff b h).1 (fun h' => hAF b h' h)
  have hoth : ∀ j c, s.blk j ≠ none → B j = none → io j = some c → ¬ OwnA B io c ∧ c < w.heap.size := fun j c hj hBj e => by
    obtain ⟨b, hb⟩ := Option.ne_none_iff_exists'.1 hj
    refine ⟨fun ⟨k, hk, e'⟩ => ?_, ((hs.bl j b hb).notF e).2.2⟩
    obtain ⟨b2, hb2⟩ := Option.ne_none_iff_exists'.1 hk
    have := hs.inj j k c hj (by rw [hB k b2 hb2]; simp) e e'
    rw [this] at hBj; exact hk hBj
  have hlt : ∀ j, s.ln j ≤ lnO B j ∨ B j = none := fun j => by
    by_cases e : B j = none
    · exact .inr e
    · exact .inl (hln j e)
  have hi : ∀ k, (((s.subs fr).over bs').keys (ioSubs io io' fr)).io k = ((s.subs fr).keys (ioSubs io io' fr)).io k ∧ ((s.subs fr).keys (ioSubs io io' fr)).ln k ≤ (((s.subs fr).over bs').keys (ioSubs io io' fr)).ln k := fun k => ⟨rfl, by
    show (s.subs fr).ln k ≤ ((s.subs fr).over bs').ln k
    rw [over_ln]
    split
    · exact Nat.le_refl _
    · rename_i hk
      rw [subs_ln]
      split
      · exact Nat.zero_le _
      · rename_i hk2
        have hBk := (hfr k hk).resolve_right hk2
        exact Nat.le_trans (hln k hBk) (hlnm k hBk)⟩
  have hlnB : ∀ k, lookB bs' k ≠ none → lnO (lookB bs') k ≤ ((s.subs fr).over bs').ln k := fun k hk => by rw [over_ln, if_neg hk]; exact Nat.le_refl _
  have hov : ∀ k, lookB bs' k ≠ none → ((s.subs fr).over bs').blk k = lookB bs' k := fun k hk => by
    obtain ⟨b, hb⟩ := Option.ne_none_iff_exists'.1 hk
    simp only [St.over, hb]
  have hov2 : ∀ k, lookB bs' k = none → ((s.subs fr).over bs').blk k = (s.subs fr).blk k := fun k hk => by simp only [St.over, hk]
  have key : SR X (ioSubs io io' fr) F' ((s.subs fr).over bs') a w' := by
    refine ⟨⟨g1.os.trans hs.kept.os, g1.tape.trans hs.kept.tape, g1.output.trans hs.kept.output, Nat.le_trans hs.kept.size g1.size, fun b e1 e2 => ?_, hs.kept.shape.trans g1.shape⟩, fun t => VR.mono hi g2 hst g1.shape _ _ (hs1.tm t), hs1.nt, DfR.mono hi g2 hst g1.shape _ _ hs1.df, fun k b hk => ?_, fun k k' b e1 e2 e3 e4 => ?_, fun b hb => ?_, fun b hb => g2 b (hs.f0 b hb), hs1.st⟩
    · rw [g1.block b (Nat.lt_of_lt_of_le e1 hs.kept.size) (fun h => by rcases hA b h with h | h; exact e2 h; omega)]
      exact hs.kept.block b e1 e2
    · by_cases e : lookB bs' k = none
      · rw [hov2 k e] at hk
        obtain ⟨q1, b0, q2⟩ := subs_blk fr hk
        have hBk : B k = none := by
          by_cases h : B k = none
          · exact h
          · exact absurd e (hkeep k h)
        refine BR.mono hi g2 hst g1.shape (fun c o' e1 e2 e3 => ?_) (hs1.bl k b hk)
        have e1' : io k = some c := by rw [← (ioSubs_of io io' fr k).2 q1]; exact e1
        obtain ⟨p1, p2⟩ := hoth k c (by rw [q2]; simp) hBk e1'
        refine ⟨(g1.block c p2 p1).trans e2, fun h => ?_⟩
        rcases (g3 c h).2 with h | h | h
        · exact e3 h
        · omega
        · exact p1 h
      · rw [hov k e] at hk
        exact BR.agree (io := ⟨io', lnO (lookB bs')⟩) hArea (hio1 k e) (fun j hj => ⟨hio1 j (hrefsB k b hk j hj), hlnB j (hrefsB k b hk j hj)⟩) (g6.br k b hk)
    · by_cases h1 : lookB bs' k = none
      · by_cases h2 : lookB bs' k' = none
        · rw [hov2 k h1] at e1
          rw [hov2 k' h2] at e2
          exact hs1.inj k k' b e1 e2 e3 e4
        · exfalso
          rw [hov2 k h1] at e1
          obtain ⟨b1, hb1⟩ := Option.ne_none_iff_exists'.1 e1
          obtain ⟨q1, b0, q2⟩ := subs_blk fr hb1
          have hBk : B k = none := by
            by_cases h : B k = none
            · exact h
            · exact absurd h1 (hkeep k h)
          rw [(ioSubs_of io io' fr k).2 q1] at e3
          obtain ⟨p1, p2⟩ := hoth k b (by rw [q2]; simp) hBk e3
          rw [hio1 k' h2] at e4
          obtain ⟨b2, hb2⟩ := Option.ne_none_iff_exists'.1 h2
          rcases ((g6.br k' b2 hb2).notF e4).2.1 with h | h
          · exact p1 h
          · omega
      · by_cases h2 : lookB bs' k' = none
        · exfalso
          rw [hov2 k' h2] at e2
          obtain ⟨b1, hb1⟩ := Option.ne_none_iff_exists'.1 e2
          obtain ⟨q1, b0, q2⟩ := subs_blk fr hb1
          have hBk : B k' = none := by
            by_cases h : B k' = none
            · exact h
            · exact absurd h2 (hkeep k' h)
          rw [(ioSubs_of io io' fr k').2 q1] at e4
          obtain ⟨p1, p2⟩ := hoth k' b (by rw [q2]; simp) hBk e4
          rw [hio1 k h1] at e3
          obtain ⟨b2, hb2⟩ := Option.ne_none_iff_exists'.1 h1
          rcases ((g6.br k b2 hb2).notF e3).2.1 with h | h
          · exact p1 h
          · omega
        · rw [hio1 k h1] at e3
          rw [hio1 k' h2] at e4
          exact g6.inj k k' b h1 h2 e3 e4
    · obtain ⟨q1, q2⟩ := g3 b hb
      refine ⟨q1, ?_⟩
      rcases q2 with h | h | h
      · exact (hs.ff b h).2
      · exact .inr (.inl (Nat.le_trans hs.kept.size h))
      · rcases hA b h with h | h
        · exact .inr (.inr h)
        · exact .inr (.inl h)
  exact ⟨key, fun k hk => ⟨hio1 k hk, hlnB k hk⟩⟩

theorem SR.lendB {io : Nat → Option Nat} {F : Nat → Prop} {a : Act} {w : World} (hs : SR X io F s a w) {B : Nat → Option Blk} (hB : ∀ k b, B k = some b → s.blk k = some b) (hBr : ∀ k b, B k = some b → ∀ j ∈ b.refs, B j ≠ none) : BsR (OwnA B io) w.heap.size io F w B := by
  have hln : ∀ k, B k ≠ none → s.ln k ≤ lnO B k := fun k hk => by
    obtain ⟨b, hb⟩ := Option.ne_none_iff_exists'.1 hk
    rw [lnO_of hb, ln_of (hB k b hb)]; exact Nat.le_refl _
  exact ⟨fun k b hk => by
    have := hs.bl k b (hB k b hk)
    have hk' : B k ≠ none := by rw [hk]; simp
    have h0 := BR.agree (io := s.keys io) (A' := fun _ => True) (n0' := 0) (io' := ⟨io, lnO B⟩) (fun c _ => .inl trivial) rfl (fun j hj => ⟨rfl, hln j (hBr k b hk j hj)⟩) this
    cases b with
    | data ty sz e z l =>
      simp only [BR] at h0 ⊢
      rcases h0 with h | ⟨b, arr, g1, g2, g3, g4, g5⟩
      · exact .inl h
      · exact .inr ⟨b, arr, g1, g2, .inl ⟨k, hk', g1⟩, g4, g5⟩
    | box ty cells =>
      simp only [BR] at h0 ⊢
      obtain ⟨b, arr, g1, g2, g3, g4, g5⟩ := h0
      exact ⟨b, arr, g1, g2, .inl ⟨k, hk', g1⟩, g4, g5⟩
    | hole ty sz e z l i v =>
      simp only [BR] at h0 ⊢
      obtain ⟨b, arr, g1, g2, g3, g4, g5⟩ := h0
      exact ⟨b, arr, g1, g2, .inl ⟨k, hk', g1⟩, g4, g5⟩,
    fun k k' b e1 e2 e3 e4 => by
      obtain ⟨b1, hb1⟩ := Option.ne_none_iff_exists'.1 e1
      obtain ⟨b2, hb2⟩ := Option.ne_none_iff_exists'.1 e2
      exact hs.inj k k' b (by rw [hB k b1 hb1]; simp) (by rw [hB k' b2 hb2]; simp) e3 e4⟩

theorem e_callB (fr : List Nat) (hg : gd all s o = some true) (hd : dstOk X.N o.dst = true) (hop : o.op = .call c) (hc : calleeOf s c = some (f, caps)) {xs : List V} (le : LeVT (c.args.toList.map s.opd ++ caps) xs) {B : Nat → Option Blk} {bs' : List (Nat × Blk)} {y : V} (hr : RetB X.P f xs B y (lookB bs')) (hB : ∀ k b, B k = some b → s.blk k = some b) (hxr : ∀ k ∈ V.refsL xs, B k ≠ none) (hBr : ∀ k b, B k = some b → ∀ j ∈ b.refs, B j ≠ none) (hfr : ∀ k, lookB bs' k ≠ none → B k ≠ none ∨ k ∈ fr) (hfr2 : ∀ k ∈ fr, k ∉ X.K ∧ B k = none) : E1 X all s o (((s.subs fr).over bs').put o.dst y) := fun io F a w hs K Q hK => by
  obtain ⟨vs, h1, h2, h3⟩ := run_call (P := X.P) (operands_of (all := all) (fun t _ => hs.tm t)) hop hc hr.enters
  unfold opWp
  rw [if_pos (gd_sound (fun t _ => hs.tm t) hg)]; left
  unfold Oper.wp; rw [h1]
  simp only [Oper.upon]
  have hln : ∀ k, B k ≠ none → s.ln k ≤ lnO B k := fun k hk => by
    obtain ⟨b, hb⟩ := Option.ne_none_iff_exists'.1 hk
    rw [lnO_of hb, ln_of (hB k b hb)]; exact Nat.le_refl _
  have hargs : VRT ⟨io, lnO B⟩ F w (fun i => vs[i]?) 0 xs := VRT.agree (io := s.keys io) _ _ _ (fun k hk => ⟨rfl, hln k (hxr k hk)⟩) (le.2 _ _ _ _ _ h3)
  have hbl := hs.lendB hB hBr
  refine (hr.run io F w vs (fun b h => (hs.ff b h).1) (by rw [h2, le.1]) hargs hbl).mono fun e w' ⟨v, io', F', he, g1, g2, g3, g4, g5, g6⟩ => ?_
  subst he
  obtain ⟨key, hkk⟩ := hs.afterB fr hB hr.keep hr.ln hr.refsB hfr hfr2 g1 g2 g3 g4 g6
  refine hK (ioSubs io io' fr) F' _ _ (key.put (dstOk_sound hd) (VR.agree (io := ⟨io', lnO (lookB bs')⟩) _ _ (fun k hk => hkk k (hr.refs k hk)) g5))
end

/-! ## Leaving -/

def St.initB (xs : List V) (bs : List (Nat × Blk)) : St := { tmps := fun t => nth (.d .undef) xs t, blk := lookB bs, dfs := [] }
def OneLe (ys : List V) (y : V) : Prop := (∃ x, ys = [x] ∧ LeVT [x] [y]) ∨ (ys.length ≠ 1 ∧ ∃ zs, y = .tup zs ∧ LeVT ys zs)
def retPostB (T : TypeId → Option TyD) (fn : Func) (y : V) (bs' : List (Nat × Blk)) : Exit → St → Prop
  | .normal, s | .ret, s => s.dfs = [] ∧ (∃ ys, resAll T s fn.results.toList = some ys ∧ OneLe ys y) ∧ AllB s bs'
  | _, _ => False
def coverR (bs : List (Nat × Blk)) : List (Nat × Blk) → Bool
  | [] => true
  | (_, b) :: r => keysOk bs b.refs && coverR bs r
theorem hasKey_ne {bs : List (Nat × Blk)} {k : Nat} (h : hasKey bs k = true) : lookB bs k ≠ none := by
  unfold hasKey at h
  split at h
  · rename_i b hb; rw [hb]; simp
  · cases h
theorem lookB_mem {bs : List (Nat × Blk)} {k : Nat} {b : Blk} : lookB bs k = some b → (k, b) ∈ bs := by
  induction bs with
  | nil => intro h; simp [lookB] at h
  | cons p r ih =>
    obtain ⟨k', v⟩ := p
    intro h
    simp only [lookB] at h
    cases hb : Nat.beq k k' with
    | true => have := Nat.eq_of_beq_eq_true hb; subst this; rw [hb] at h; simp at h; simp [h]
    | false => rw [hb] at h; exact List.mem_cons_of_mem _ (ih (by simpa using h))
theorem coverR_spec {bs : List (Nat × Blk)} : ∀ {l : List (Nat × Blk)}, coverR bs l = true → ∀ p ∈ l, ∀ j ∈ p.2.refs, lookB bs j ≠ none
  | [], _, p, h => by simp at h
  | (a, v) :: l, h, p, hp => by
    simp only [coverR, Bool.and_eq_true] at h
    rcases List.mem_cons.1 hp with rfl | hp
    · exact fun j hj => hasKey_ne (keysOk_spec h.1 j hj)
    · exact coverR_spec h.2 p hp
def LnLe (bs' : List (Nat × Blk)) : List (Nat × Blk) → Prop
  | [] => True
  | (k, b) :: r => b.ln ≤ lnO (lookB bs') k ∧ LnLe bs' r
theorem LnLe_spec {bs' : List (Nat × Blk)} : ∀ {l : List (Nat × Blk)}, LnLe bs' l → ∀ p ∈ l, p.2.ln ≤ lnO (lookB bs') p.1
  | [], _, p, h => by simp at h
  | (a, v) :: l, h, p, hp => by
    rcases List.mem_cons.1 hp with rfl | hp
    · exact h.1
    · exact LnLe_spec h.2 p hp

theorem sr_initB {P : Program} {T : TypeId → Option TyD} (hT : TabOk P T) {N : Nat} {w : World} {io : Nat → Option Nat} {F : Nat → Prop} {xs : List V} {bs : List (Nat × Blk)} {ks : List Nat} {vs : Array Value} (hl : vs.size = xs.length) (hn : xs.length ≤ N) (hF : ∀ b, F b → b < w.heap.size) (hv : VRT ⟨io, lnO (lookB bs)⟩ F w (fun i => vs[i]?) 0 xs) (hbs : BsR (OwnA (lookB bs) io) w.heap.size io F w (lookB bs)) : SR ⟨P, T, hT, N, w, OwnA (lookB bs) io, F, ks, io⟩ io F (St.initB xs bs) { tmps := vs ++ Array.replicate (N - vs.size) undef, defers := [] } w := by
  have hk : (St.initB xs bs).keys io = ⟨io, lnO (lookB bs)⟩ := by unfold St.keys; rw [lnO_eq]; rfl
  refine ⟨⟨rfl, rfl, rfl, Nat.le_refl _, fun _ _ _ => rfl, Shapes.refl _⟩, fun t => ?_, by simp; omega, rfl, fun k b h => by rw [hk]; exact hbs.br k b h, hbs.inj, fun b h => ⟨hF b h, .inl h⟩, fun b h => h, fun k hk => rfl⟩
  rw [hk]
  simp only [St.initB]
  by_cases ht : t < vs.size
  · have hx := List.getElem?_eq_getElem (show t < xs.length by omega)
    obtain ⟨v, h1, h2⟩ := VRT_iff.1 hv t _ hx
    simp only [Nat.zero_add] at h1
    rw [nth_of hx]
    have : (vs ++ Array.replicate (N - vs.size) undef).getD t undef = v := by
      rw [Array.getD_eq_getD_getElem?, Array.getElem?_append_left ht, h1]; rfl
    rw [this]; exact h2
  · rw [nth_none (by omega)]; simp only [VR, DR]

def RetPost (io : Nat → Option Nat) (F : Nat → Prop) (w : World) (bs : List (Nat × Blk)) (y : V) (bs' : List (Nat × Blk)) : Ending → World → Prop := fun e w' => ∃ v io' F', e = .returned v ∧ Kept (OwnA (lookB bs) io) w w' ∧ (∀ b, F b → F' b) ∧ (∀ b, F' b → b < w'.heap.size ∧ (F b ∨ w.heap.size ≤ b ∨ OwnA (lookB bs) io b)) ∧ (∀ k, lookB bs k ≠ none → io' k = io k) ∧ VR ⟨io', lnO (lookB bs')⟩ F' w' y v ∧ BsR (OwnA (lookB bs) io) w.heap.size io' F' w' (lookB bs')
theorem retB_fin {P : Program} {T : TypeId → Option TyD} {hT : TabOk P T} {fn : Func} {N : Nat} {ks : List Nat} {bs bs' : List (Nat × Blk)} {y : V} (hks : bs.map (·.1) = ks) (hcov : (keysOk bs' ks && keysOk bs' y.refs && coverR bs' bs') = true) {io io' : Nat → Option Nat} {F F' : Nat → Prop} {w w' : World} {s' : St} {a' : Act} (hs' : SR ⟨P, T, hT, N, w, OwnA (lookB bs) io, F, ks, io⟩ io' F' s' a' w') (hq : s'.dfs = [] ∧ (∃ ys, resAll T s' fn.results.toList = some ys ∧ OneLe ys y) ∧ AllB s' bs') : a'.defers = [] ∧ ∃ v, (results fn a'.tmps).run P w' = .ok v w' ∧ RetPost io F w bs y bs' (.returned v) w' := by
  simp only [Bool.and_eq_true] at hcov
  obtain ⟨⟨c1, c2⟩, c3⟩ := hcov
  have hkey : ∀ k, lookB bs k ≠ none → k ∈ ks := fun k hk => by
    obtain ⟨b, hb⟩ := Option.ne_none_iff_exists'.1 hk
    rw [← hks]; exact List.mem_map.2 ⟨_, lookB_mem hb, rfl⟩
  obtain ⟨hd, ⟨ys, h1, h2⟩, h3⟩ := hq
  obtain ⟨vs', hvs, hl', hd'⟩ := resAll_sound hT hs' _ h1
  have hln' : ∀ k, lookB bs' k ≠ none → s'.ln k ≤ lnO (lookB bs') k := fun k hk => by
    obtain ⟨b, hb⟩ := Option.ne_none_iff_exists'.1 hk
    rw [ln_of (lookB_of h3 k b hb).1, lnO_of hb]; exact Nat.le_refl _
  have hag : ∀ k ∈ y.refs, io' k = io' k ∧ s'.ln k ≤ lnO (lookB bs') k := fun k hk => ⟨rfl, hln' k (hasKey_ne (keysOk_spec c2 k hk))⟩
  have hdf := hs'.df
  rw [hd] at hdf
  have hbs' : BsR (OwnA (lookB bs) io) w.heap.size io' F' w' (lookB bs') := ⟨fun k b hk => BR.agree (io := s'.keys io') (io' := ⟨io', lnO (lookB bs')⟩) (fun _ h => h) rfl (fun j hj => ⟨rfl, hln' j (coverR_spec c3 _ (lookB_mem hk) j hj)⟩) (hs'.bl k b (lookB_of h3 k b hk).1), fun k k' b e1 e2 e3 e4 => by
    obtain ⟨b1, hb1⟩ := Option.ne_none_iff_exists'.1 e1
    obtain ⟨b2, hb2⟩ := Option.ne_none_iff_exists'.1 e2
    exact hs'.inj k k' b (by rw [(lookB_of h3 k b1 hb1).1]; simp) (by rw [(lookB_of h3 k' b2 hb2).1]; simp) e3 e4⟩
  refine ⟨hdf, _, run_results fn hvs, _, io', F', rfl, hs'.kept, hs'.f0, hs'.ff, fun k hk => hs'.st k (hkey k hk), ?_, hbs'⟩
  rcases h2 with ⟨x, rfl, hx⟩ | ⟨hne, zs, rfl, hz⟩
  · obtain ⟨v, rfl⟩ := List.length_eq_one_iff.1 (show vs'.length = 1 by simpa using hl')
    have := hx.2 _ _ _ _ _ hd'
    simp only [VRT] at this
    obtain ⟨⟨u, hu, hd2⟩, _⟩ := this
    simp at hu; subst hu
    exact VR.agree (io := s'.keys io') _ _ hag hd2
  · have hn1 : vs'.length ≠ 1 := by rw [hl']; exact hne
    have := hz.2 _ _ _ _ _ hd'
    refine VR.agree (io := s'.keys io') _ _ hag ?_
    rw [dif_neg hn1]
    simp only [VR]
    exact ⟨vs'.toArray, rfl, by simp; rw [hl', hz.1], by simpa using this⟩
theorem retB_of_awp {P : Program} {T : TypeId → Option TyD} (hT : TabOk P T) {f : FuncId} {fn : Func} {c : Code} (ks : List Nat) (hf : P.funcs[f]? = some fn) (hname : (fn.name == "runtime.NumGoroutine") = false) (hb : fn.body = some c) {xs : List V} {bs bs' : List (Nat × Blk)} {y : V} (hks : bs.map (·.1) = ks) (hn : xs.length ≤ fn.ntmps) (hcov : (keysOk bs' ks && keysOk bs' y.refs && coverR bs' bs') = true) (hln : LnLe bs' bs)
    (h : ∀ w0 F0 A io0, awp ⟨P, T, hT, fn.ntmps, w0, A, F0, ks, io0⟩ c (retPostB T fn y bs') (St.initB xs bs)) : RetB P f xs (lookB bs) y (lookB bs') := by
  simp only [Bool.and_eq_true] at hcov
  obtain ⟨⟨c1, c2⟩, c3⟩ := hcov
  have hkey : ∀ k, lookB bs k ≠ none → k ∈ ks := fun k hk => by
    obtain ⟨b, hb⟩ := Option.ne_none_iff_exists'.1 hk
    rw [← hks]; exact List.mem_map.2 ⟨_, lookB_mem hb, rfl⟩
  refine ⟨⟨fn, hf, hname, by rw [hb]; rfl⟩, fun k hk => hasKey_ne (keysOk_spec c1 k (hkey k hk)), fun k hk => ?_, fun k hk => hasKey_ne (keysOk_spec c2 k hk), fun k b hk j hj => coverR_spec c3 _ (lookB_mem hk) j hj, fun io F w vs hF hl hv hbs => ?_⟩
  · obtain ⟨b, hb⟩ := Option.ne_none_iff_exists'.1 hk
    rw [lnO_of hb]
    exact LnLe_spec hln _ (lookB_mem hb)
  refine calls_of_wp hf hb ?_
  refine wp_mono (h w F _ io io F _ w (sr_initB hT (ks := ks) hl hn hF hv hbs)) fun e a' w' ⟨s', io', F', hq, hs'⟩ => ?_
  cases e <;> simp only [retPostB] at hq <;> first | exact hq.elim | exact retB_fin hks (by simp only [Bool.and_eq_true]; exact ⟨⟨c1, c2⟩, c3⟩) hs' hq

theorem finB {T : TypeId → Option TyD} {fn : Func} {y x : V} {bs' : List (Nat × Blk)} {s : St} (hd : s.dfs = []) (h : resAll T s fn.results.toList = some [x]) (hle : LeVT [x] [y]) (hB : AllB s bs') : retPostB T fn y bs' .ret s := ⟨hd, ⟨_, h, .inl ⟨x, rfl, hle⟩⟩, hB⟩
theorem finBT {T : TypeId → Option TyD} {fn : Func} {ys zs : List V} {bs' : List (Nat × Blk)} {s : St} (hd : s.dfs = []) (h : resAll T s fn.results.toList = some ys) (hn : Nat.beq ys.length 1 = false) (hle : LeVT ys zs) (hB : AllB s bs') : retPostB T fn (.tup zs) bs' .ret s := ⟨hd, ⟨_, h, .inr ⟨beq_ne hn, zs, rfl, hle⟩⟩, hB⟩

/-! ## Keys under other names -/

mutual
def V.ren (σ : Nat → Nat) : V → V
  | .own k o n ty sz => .own (σ k) o n ty sz
  | .ptr k o => .ptr (σ k) o
  | .eptr k sz i f => .eptr (σ k) sz i f
  | .agg cs => .agg (V.renL σ cs)
  | .tup cs => .tup (V.renL σ cs)
  | .fn f cs => .fn f (V.renL σ cs)
  | .d x => .d x
def V.renL (σ : Nat → Nat) : List V → List V
  | [] => []
  | x :: xs => V.ren σ x :: V.renL σ xs
end
theorem V.renL_len (σ : Nat → Nat) : ∀ l, (V.renL σ l).length = l.length
  | [] => rfl
  | x :: xs => by simp [V.renL, V.renL_len σ xs]
section
variable {io : Keys} {σ : Nat → Nat} {F : Nat → Prop} {w : World}
mutual
theorem VR.ren : ∀ (x : V) (v : Value), VR ⟨fun k => io.io (σ k), fun k => io.ln (σ k)⟩ F w x v ↔ VR io F w (x.ren σ) v
  | .d x, v => by simp only [V.ren, VR]
  | .own k o n ty sz, v => by simp only [V.ren, VR]
  | .ptr k o, v => by simp only [V.ren, VR]
  | .eptr k sz i f, v => by simp only [V.ren, VR]
  | .agg cs, v => by
    simp only [V.ren, VR, V.renL_len]
    exact ⟨fun ⟨a, e, l, h⟩ => ⟨a, e, l, (VRA.ren cs _ _).1 h⟩, fun ⟨a, e, l, h⟩ => ⟨a, e, l, (VRA.ren cs _ _).2 h⟩⟩
  | .tup cs, v => by
    simp only [V.ren, VR, V.renL_len]
    exact ⟨fun ⟨a, e, l, h⟩ => ⟨a, e, l, (VRT.ren cs _ _).1 h⟩, fun ⟨a, e, l, h⟩ => ⟨a, e, l, (VRT.ren cs _ _).2 h⟩⟩
  | .fn f cs, v => by
    simp only [V.ren, VR, V.renL_len]
    exact ⟨fun ⟨a, e, l, h⟩ => ⟨a, e, l, (VRA.ren cs _ _).1 h⟩, fun ⟨a, e, l, h⟩ => ⟨a, e, l, (VRA.ren cs _ _).2 h⟩⟩
theorem VRA.ren : ∀ (xs : List V) (g : Nat → Option Value) (off : Nat), VRA ⟨fun k => io.io (σ k), fun k => io.ln (σ k)⟩ F w g off xs ↔ VRA io F w g off (V.renL σ xs)
  | [], _, _ => by simp only [V.renL, VRA]
  | x :: xs, g, off => by
    simp only [V.renL, VRA]
    exact ⟨fun ⟨⟨v, e, h0, h1⟩, h2⟩ => ⟨⟨v, e, h0, (VR.ren x v).1 h1⟩, (VRA.ren xs _ _).1 h2⟩, fun ⟨⟨v, e, h0, h1⟩, h2⟩ => ⟨⟨v, e, h0, (VR.ren x v).2 h1⟩, (VRA.ren xs _ _).2 h2⟩⟩
theorem VRT.ren : ∀ (xs : List V) (g : Nat → Option Value) (off : Nat), VRT ⟨fun k => io.io (σ k), fun k => io.ln (σ k)⟩ F w g off xs ↔ VRT io F w g off (V.renL σ xs)
  | [], _, _ => by simp only [V.renL, VRT]
  | x :: xs, g, off => by
    simp only [V.renL, VRT]
    exact ⟨fun ⟨⟨v, e, h1⟩, h2⟩ => ⟨⟨v, e, (VR.ren x v).1 h1⟩, (VRT.ren xs _ _).1 h2⟩, fun ⟨⟨v, e, h1⟩, h2⟩ => ⟨⟨v, e, (VR.ren x v).2 h1⟩, (VRT.ren xs _ _).2 h2⟩⟩
end
end
def Blk.ren (σ : Nat → Nat) : Blk → Blk
  | .data ty sz e z l => .data ty sz e z l
  | .box ty cs => .box ty (V.renL σ cs)
  | .hole ty sz e z l i v => .hole ty sz e z l i (V.ren σ v)
theorem Blk.ren_ln (σ : Nat → Nat) (b : Blk) : (b.ren σ).ln = b.ln := by cases b <;> rfl
theorem BR.ren {A : Nat → Prop} {n0 : Nat} {io : Keys} {σ : Nat → Nat} {F : Nat → Prop} {w : World} {k : Nat} {b : Blk} : BR A n0 ⟨fun k => io.io (σ k), fun k => io.ln (σ k)⟩ F w k b ↔ BR A n0 io F w (σ k) (b.ren σ) := by
  cases b with
  | data ty sz e z l => simp only [Blk.ren, BR]
  | box ty cs => simp only [Blk.ren, BR, VRA.ren]
  | hole ty sz e z l i v => simp only [Blk.ren, BR, HRA, VR.ren]
mutual
theorem V.ren_refs (σ : Nat → Nat) : ∀ (x : V) (k : Nat), k ∈ (x.ren σ).refs ↔ ∃ j ∈ x.refs, σ j = k
  | .d x, k => by simp [V.ren, V.refs]
  | .own j o n ty sz, k => by simp [V.ren, V.refs, eq_comm]
  | .ptr j o, k => by simp [V.ren, V.refs, eq_comm]
  | .eptr j sz i f, k => by simp [V.ren, V.refs, eq_comm]
  | .agg cs, k => by simp only [V.ren, V.refs]; exact V.renL_refs σ cs k
  | .tup cs, k => by simp only [V.ren, V.refs]; exact V.renL_refs σ cs k
  | .fn f cs, k => by simp only [V.ren, V.refs]; exact V.renL_refs σ cs k
theorem V.renL_refs (σ : Nat → Nat) : ∀ (xs : List V) (k : Nat), k ∈ V.refsL (V.renL σ xs) ↔ ∃ j ∈ V.refsL xs, σ j = k
  | [], k => by simp [V.renL, V.refsL]
  | x :: xs, k => by
    simp only [V.renL, V.refsL, List.mem_append, V.ren_refs σ x k, V.renL_refs σ xs k]
    exact ⟨fun h => h.elim (fun ⟨j, h1, h2⟩ => ⟨j, .inl h1, h2⟩) (fun ⟨j, h1, h2⟩ => ⟨j, .inr h1, h2⟩), fun ⟨j, h1, h2⟩ => h1.elim (fun h => .inl ⟨j, h, h2⟩) (fun h => .inr ⟨j, h, h2⟩)⟩
end
theorem Blk.ren_refs (σ : Nat → Nat) (b : Blk) (k : Nat) : k ∈ (b.ren σ).refs ↔ ∃ j ∈ b.refs, σ j = k := by
  cases b with
  | data ty sz e z l => simp [Blk.ren, Blk.refs]
  | box ty cs => simp only [Blk.ren, Blk.refs]; exact V.renL_refs σ cs k
  | hole ty sz e z l i v => simp only [Blk.ren, Blk.refs]; exact V.ren_refs σ v k

def renO (σ τ : Nat → Nat) (B : Nat → Option Blk) (k : Nat) : Option Blk := (B (τ k)).map (Blk.ren σ)
theorem RetB.renO {P : Program} {f : FuncId} {xs : List V} {B B' : Nat → Option Blk} {y : V} (h : RetB P f xs B y B') {σ τ : Nat → Nat} (h1 : ∀ k, σ (τ k) = k) (h2 : ∀ k, τ (σ k) = k) : RetB P f (V.renL σ xs) (renO σ τ B) (V.ren σ y) (renO σ τ B') := by
  have ne : ∀ (B : Nat → Option Blk) k, Vw.renO σ τ B k ≠ none ↔ B (τ k) ≠ none := fun B k => by simp [Vw.renO]
  have ln : ∀ (B : Nat → Option Blk) k, lnO (Vw.renO σ τ B) k = lnO B (τ k) := fun B k => by
    unfold lnO Vw.renO
    cases B (τ k) with
    | none => rfl
    | some b => exact Blk.ren_ln σ b
  have lnf : ∀ (B : Nat → Option Blk), (fun k => lnO (Vw.renO σ τ B) (σ k)) = lnO B := fun B => by funext k; rw [ln, h2]
  have ow : ∀ io, OwnA (Vw.renO σ τ B) io = OwnA B (fun k => io (σ k)) := fun io => by
    funext b
    apply propext
    constructor
    · rintro ⟨k, e1, e2⟩
      exact ⟨τ k, (ne B k).1 e1, by simp only [h1]; exact e2⟩
    · rintro ⟨k, e1, e2⟩
      exact ⟨σ k, (ne B (σ k)).2 (by rw [h2]; exact e1), e2⟩
  have bs : ∀ (A : Nat → Prop) n0 (io : Nat → Option Nat) F w (B : Nat → Option Blk), BsR A n0 io F w (Vw.renO σ τ B) ↔ BsR A n0 (fun k => io (σ k)) F w B := fun A n0 io F w B => by
    constructor
    · intro hb
      refine ⟨fun k b hk => ?_, fun k k' b e1 e2 e3 e4 => ?_⟩
      · have := hb.br (σ k) (b.ren σ) (by simp [Vw.renO, h2, hk])
        have := BR.ren.2 this
        simp only [lnf] at this
        exact this
      · have := hb.inj (σ k) (σ k') b ((ne B _).2 (by rw [h2]; exact e1)) ((ne B _).2 (by rw [h2]; exact e2)) e3 e4
        have := congrArg τ this
        rwa [h2, h2] at this
    · intro hb
      refine ⟨fun k b hk => ?_, fun k k' b e1 e2 e3 e4 => ?_⟩
      · simp only [Vw.renO, Option.map_eq_some_iff] at hk
        obtain ⟨b0, e0, rfl⟩ := hk
        have := hb.br (τ k) b0 e0
        rw [← lnf B] at this
        have := BR.ren (io := ⟨io, lnO (Vw.renO σ τ B)⟩).1 this
        rwa [h1] at this
      · have := hb.inj (τ k) (τ k') b ((ne B _).1 e1) ((ne B _).1 e2) (by rw [h1]; exact e3) (by rw [h1]; exact e4)
        have := congrArg σ this
        rwa [h1, h1] at this
  refine ⟨h.enters, fun k hk => (ne B' k).2 (h.keep _ ((ne B k).1 hk)), fun k hk => by rw [ln, ln]; exact h.ln _ ((ne B k).1 hk), fun k hk => ?_, fun k b hk j hj => ?_, fun io F w vs hF hl hv hb => ?_⟩
  · obtain ⟨j, e1, rfl⟩ := (V.ren_refs σ y k).1 hk
    exact (ne B' _).2 (by rw [h2]; exact h.refs j e1)
  · simp only [Vw.renO, Option.map_eq_some_iff] at hk
    obtain ⟨b0, e0, rfl⟩ := hk
    obtain ⟨i, e1, rfl⟩ := (Blk.ren_refs σ b0 j).1 hj
    exact (ne B' _).2 (by rw [h2]; exact h.refsB _ b0 e0 i e1)
  · have hv' := (VRT.ren (io := ⟨io, lnO (Vw.renO σ τ B)⟩) xs _ _).2 hv
    simp only [lnf] at hv'
    rw [ow io] at hb ⊢
    refine (h.run (fun k => io (σ k)) F w vs hF (by rw [hl, V.renL_len]) hv' ((bs _ _ _ _ _ _).1 hb)).mono fun e w' ⟨v, io', F', he, g1, g2, g3, g4, g5, g6⟩ => ?_
    have eio : (fun k => (fun k => io' (τ k)) (σ k)) = io' := by funext k; simp only [h2]
    refine ⟨v, fun k => io' (τ k), F', he, g1, g2, g3, fun k hk => ?_, ?_, ?_⟩
    · show io' (τ k) = _
      rw [g4 _ ((ne B k).1 hk), h1]
    · refine (VR.ren (io := ⟨fun k => io' (τ k), lnO (Vw.renO σ τ B')⟩) y v).1 ?_
      simp only [lnf, h2]
      exact g5
    · refine (bs _ _ _ _ _ _).2 ?_
      rw [eio]; exact g6

theorem beq_of_ne {a b : Nat} (h : a ≠ b) : Nat.beq a b = false := by
  cases hb : Nat.beq a b with
  | true => exact absurd (Nat.eq_of_beq_eq_true hb) h
  | false => rfl
def swp (a b k : Nat) : Nat := bif Nat.beq k a then b else bif Nat.beq k b then a else k
theorem swp_swp (a b k : Nat) : swp a b (swp a b k) = k := by
  unfold swp
  by_cases h1 : k = a
  · subst h1
    simp only [Nat.beq_refl, cond_true]
    by_cases h2 : b = k
    · subst h2; simp
    · have : Nat.beq b k = false := beq_of_ne h2
      simp [this]
  · have e1 : Nat.beq k a = false := beq_of_ne h1
    by_cases h2 : k = b
    · subst h2; simp [e1]
    · have e2 : Nat.beq k b = false := beq_of_ne h2
      simp [e1, e2]
def perm : List (Nat × Nat) → Nat → Nat
  | [], k => k
  | (a, b) :: r, k => perm r (swp a b k)
def permI : List (Nat × Nat) → Nat → Nat
  | [], k => k
  | (a, b) :: r, k => swp a b (permI r k)
theorem perm_permI : ∀ l k, perm l (permI l k) = k
  | [], k => rfl
  | (a, b) :: r, k => by simp only [perm, permI, swp_swp, perm_permI r]
theorem permI_perm : ∀ l k, permI l (perm l k) = k
  | [], k => rfl
  | (a, b) :: r, k => by simp only [perm, permI, permI_perm r, swp_swp]
def renB (σ : Nat → Nat) : List (Nat × Blk) → List (Nat × Blk)
  | [] => []
  | (k, b) :: r => (σ k, b.ren σ) :: renB σ r
theorem lookB_ren {σ τ : Nat → Nat} (h1 : ∀ k, σ (τ k) = k) (h2 : ∀ k, τ (σ k) = k) : ∀ bs, Vw.renO σ τ (lookB bs) = lookB (renB σ bs)
  | [] => rfl
  | (k, b) :: r => by
    funext j
    have ih := congrFun (lookB_ren h1 h2 r) j
    simp only [Vw.renO, renB, lookB] at ih ⊢
    by_cases e : j = σ k
    · subst e; simp [h2]
    · have e1 : Nat.beq j (σ k) = false := beq_of_ne e
      have e2 : Nat.beq (τ j) k = false := by
        have : τ j ≠ k := fun e' => e (by rw [← e', h1])
        exact beq_of_ne this
      rw [e1, e2]; simpa using ih
theorem RetB.ren {P : Program} {f : FuncId} {xs : List V} {bs bs' : List (Nat × Blk)} {y : V} (h : RetB P f xs (lookB bs) y (lookB bs')) (l : List (Nat × Nat)) {xs2 : List V} {bs2 bs2' : List (Nat × Blk)} {y2 : V} (e1 : V.renL (perm l) xs = xs2 := by rfl) (e2 : renB (perm l) bs = bs2 := by rfl) (e3 : V.ren (perm l) y = y2 := by rfl) (e4 : renB (perm l) bs' = bs2' := by rfl) : RetB P f xs2 (lookB bs2) y2 (lookB bs2') := by
  subst e1 e2 e3 e4
  have := h.renO (perm_permI l) (permI_perm l)
  rwa [lookB_ren (perm_permI l) (permI_perm l), lookB_ren (perm_permI l) (permI_perm l)] at this

/-! ## The rule -/

def keysIn (bs : List (Nat × Blk)) (fr : List Nat) : List (Nat × Blk) → Bool
  | [] => true
  | (k, _) :: r => (hasKey bs k || fr.elem k) && keysIn bs fr r
theorem keysIn_spec {bs : List (Nat × Blk)} {fr : List Nat} : ∀ {l : List (Nat × Blk)}, keysIn bs fr l = true → ∀ p ∈ l, lookB bs p.1 ≠ none ∨ p.1 ∈ fr
  | [], _, p, h => by simp at h
  | (a, v) :: l, h, p, hp => by
    simp only [keysIn, Bool.and_eq_true, Bool.or_eq_true] at h
    rcases List.mem_cons.1 hp with rfl | hp
    · exact h.1.imp hasKey_ne (fun h => by simpa using h)
    · exact keysIn_spec h.2 p hp
def freshOk (K : List Nat) (bs : List (Nat × Blk)) : List Nat → Bool
  | [] => true
  | k :: r => !(K.contains k) && !(hasKey bs k) && freshOk K bs r
theorem freshOk_spec {K : List Nat} {bs : List (Nat × Blk)} : ∀ {l : List Nat}, freshOk K bs l = true → ∀ k ∈ l, k ∉ K ∧ lookB bs k = none
  | [], _, k, h => by simp at h
  | a :: l, h, k, hk => by
    simp only [freshOk, Bool.and_eq_true, Bool.not_eq_true'] at h
    rcases List.mem_cons.1 hk with rfl | hk
    · refine ⟨notMem h.1.1, ?_⟩
      have := h.1.2
      unfold hasKey at this
      split at this
      · cases this
      · assumption
    · exact freshOk_spec h.2 k hk

theorem leVT {xs ys : List V} (h : LeVT xs ys := by
  first
  | ((repeat' (first | exact Go.Vw.LeVT.nil | apply Go.Vw.LeVT.cons | (refine Go.Vw.LeVT.consD ?_ ?_) | exact Go.Vw.LeD.full | exact Go.Vw.LeD.tk0 | exact Go.Vw.LeD.cutAll Go.Vw.sc | exact Go.Vw.LeD.refl _ | exact Go.Vw.LeD.eqi (by omega) | exact Go.Vw.LeD.nils | (refine Go.Vw.LeD.agg ?_; exact Go.Vw.leL) | (refine Go.Vw.LeD.lit rfl ?_; repeat' (first | exact Go.Vw.LeR.nil | refine Go.Vw.LeR.cons rfl Go.Vw.leL ?_)) | (refine Go.Vw.LeD.fn ?_; exact Go.Vw.leL) | (refine Go.Vw.LeD.ptr ?_ _; exact Go.Vw.leL))); done)
  | fail) : LeVT xs ys := h
theorem allB {s : St} {bs : List (Nat × Blk)} (h : AllB s bs := by
  first
  | exact trivial
  | exact ⟨rfl, trivial⟩
  | exact ⟨rfl, rfl, trivial⟩
  | exact ⟨rfl, rfl, rfl, trivial⟩
  | exact ⟨rfl, rfl, rfl, rfl, trivial⟩
  | fail) : AllB s bs := h
theorem clB {X : Ctx} {all : Array Oper} {s : St} {o : Oper} {Q : Exit → St → Prop} {rest : List Oper} {c : Call} {caps : List V} {d : Tmp} (f : FuncId) (fr : List Nat) {xs : List V} {bs bs' : List (Nat × Blk)} {y : V} (hr : RetB X.P f xs (lookB bs) y (lookB bs')) (hcf : calleeIs s o.op f = true) (hop : o.op = .call c) (hc : calleeOf s c = some (f, caps)) (hdst : o.dst = some d) (hg : gd all s o = some true) (hd : dstOk X.N (some d) = true) (hcov : (keysOk bs (V.refsL xs) && coverR bs bs && keysIn bs fr bs' && freshOk X.K bs fr) = true) (le : LeVT (c.args.toList.map s.opd ++ caps) xs) (hB : AllB s bs) (k : awpL X all rest Q (((s.subs fr).over bs').put (some d) y)) : awpL X all (o :: rest) Q s := by
  simp only [Bool.and_eq_true] at hcov
  obtain ⟨⟨⟨c1, c2⟩, c3⟩, c4⟩ := hcov
  rw [← hdst] at hd k
  exact awpL_step (e_callB fr hg hd hop hc le hr (fun k b hk => (lookB_of hB k b hk).1) (fun k hk => hasKey_ne (keysOk_spec c1 k hk)) (fun k b hk j hj => coverR_spec c2 _ (lookB_mem hk) j hj) (fun k hk => by
    obtain ⟨b, hb⟩ := Option.ne_none_iff_exists'.1 hk
    exact keysIn_spec c3 _ (lookB_mem hb)) (fun k hk => freshOk_spec c4 k hk)) k

/-! ## Where ways meet -/

@[irreducible] def Stop (p : Prop) : Prop := p
theorem stopOut {p : Prop} (h : p) : Stop p := by unfold Stop; exact h
def headId : Code → Option Nat
  | .region id _ _ => some id
  | .seq x _ => headId x
  | .block _ c => headId c
  | .loop c => headId c
  | _ => none
def headIs (n : Nat) (c : Code) : Bool := match headId c with | some m => Nat.beq m n | none => false
theorem stopA (n : Nat) {X : Ctx} {c : Code} {Q : Exit → St → Prop} {s : St} (h : headIs n c = true) (k : Stop (awp X c Q s)) : awp X c Q s := by unfold Stop at k; exact k
theorem awp_meet1 {α : Type} {X : Ctx} {x y : Code} {Q : Exit → St → Prop} {s : St} (st : α → List (Nat × V) × List (Nat × Blk)) (I : α → Prop) (h2 : ∀ a, I a → awp X y Q (St.of (st a).1 (st a).2)) (h1 : awp X x (andThen (fun s' => ∃ a, I a ∧ AllT s' (st a).1 ∧ AllB s' (st a).2) Q) s) (hc : ∀ a, (coverT (st a).2 (st a).1 && coverB (st a).2 (st a).2) = true := by exact fun _ => rfl) : awp X (.seq x y) Q s :=
  awp_seq (awp_mono (fun e s h => by
    cases e <;> first | exact h | exact (let ⟨a, hI, ht, hb⟩ := h; awp_slots _ _ ht hb (h2 a hI) (hc a))) h1)
theorem awp_meet2 {α β : Type} {X : Ctx} {x y : Code} {Q : Exit → St → Prop} {s : St} (st : α → β → List (Nat × V) × List (Nat × Blk)) (I : α → β → Prop) (h2 : ∀ a b, I a b → awp X y Q (St.of (st a b).1 (st a b).2)) (h1 : awp X x (andThen (fun s' => ∃ a b, I a b ∧ AllT s' (st a b).1 ∧ AllB s' (st a b).2) Q) s) (hc : ∀ a b, (coverT (st a b).2 (st a b).1 && coverB (st a b).2 (st a b).2) = true := by exact fun _ _ => rfl) : awp X (.seq x y) Q s :=
  awp_seq (awp_mono (fun e s h => by
    cases e <;> first | exact h | exact (let ⟨a, b, hI, ht, hb⟩ := h; awp_slots _ _ ht hb (h2 a b hI) (hc a b))) h1)
theorem blkEq {ty : TypeId} {sz : Nat} {α : Type} {e : α → List D} {z : α} {l l' : List α} (h : l = l') : some (Blk.data ty sz e z l) = some (Blk.data ty sz e z l') := by rw [h]
end Go.Vw

namespace Go.Proofs.YtlphlodailailaaGreat
open Go.Vw
attribute [local irreducible] awp awpL awpR

theorem natural_Valid (l : List Nat) (hl : l.length < 10000000000000) : Ret Tryz.prog 165 [u32s l] (· = .bool (valid l)) := by
  refine ret_of_awp tab Tryz.func165 rfl rfl (Nat.le_of_ble_eq_true rfl) (fun w0 F0 => ?_)
  repeat' (first
    | (show awpL _ _ _ _ _; first | refine goL ?_ | (refine gdLG ?_ ?_ <;> intro _ <;> try (exfalso; omega)))
    | (show awp _ _ _ _; first | refine goA ?_ | (refine cdG ?_ ?_ <;> intro _ <;> try (exfalso; omega)))
    | (show andThen _ _ _ _; refine goN ?_)
    | (show inBlock _ _ _ _; refine goB ?_)
    | (show retPost _ _ _ _ _; refine finG ?_))
  · rename_i h
    have : l = [] := List.length_eq_zero_iff.1 (by omega)
    subst this; rfl
  · rename_i h
    have hn : l ≠ [] := fun e => h (by simp [e])
    have e : ((l.length : Int) - 1).toNat = l.length - 1 := by omega
    rw [e]
    have hv : valid l = (l.getD (l.length - 1) 0 != 0) := by conv => lhs; rw [list_snoc hn, valid_snoc]
    rw [hv]
    congr 1
    rw [Bool.eq_iff_iff]; simp
theorem natural_value (l : List Nat) (hl : l.length < 10000000000000) : Ret Tryz.prog 155 [u32s l] (· = u32s (takeL l)) := by
  have hv := natural_Valid l hl
  unfold takeL
  cases h : valid l with
  | true =>
    rw [h] at hv
    refine ret_of_awp tab Tryz.func155 rfl rfl (Nat.le_of_ble_eq_true rfl) (fun w0 F0 => ?_)
    repeat' (first
      | (show awpL _ _ _ _ _; first | refine goL ?_ | refine cl 165 tt rfl rfl rfl (hr := hv) (k := ?_) | (refine gdLG ?_ ?_ <;> intro _ <;> try (exfalso; omega)))
      | (show awp _ _ _ _; first | refine goA ?_ | (refine cdG ?_ ?_ <;> intro _ <;> try (exfalso; omega)))
      | (show andThen _ _ _ _; refine goN ?_)
      | (show inBlock _ _ _ _; refine goB ?_)
      | (show retPost _ _ _ _ _; refine finG ?_))
    rfl
  | false =>
    rw [h] at hv
    refine ret_of_awp tab Tryz.func155 rfl rfl (Nat.le_of_ble_eq_true rfl) (fun w0 F0 => ?_)
    repeat' (first
      | (show awpL _ _ _ _ _; first | refine goL ?_ | refine cl 165 tt rfl rfl rfl (hr := hv) (k := ?_) | (refine gdLG ?_ ?_ <;> intro _ <;> try (exfalso; omega)))
      | (show awp _ _ _ _; first | refine goA ?_ | (refine cdG ?_ ?_ <;> intro _ <;> try (exfalso; omega)))
      | (show andThen _ _ _ _; refine goN ?_)
      | (show inBlock _ _ _ _; refine goB ?_)
      | (show retPost _ _ _ _ _; refine finG ?_))
    rfl
theorem natural_Compare (a b : List Nat) (wa : WF a) (wb : WF b) (hla : a.length < 10000000000) (hlb : b.length < 10000000000) : Ret Tryz.prog 154 [u32s a, u32s b] (· = .int .i64 (cmpN (nv a) (nv b))) := by
  have h1 := natural_value a (by omega)
  have h2 := natural_value b (by omega)
  have la := takeL_le a
  have lb := takeL_le b
  rw [takeL_limbs wa] at h1 la
  rw [takeL_limbs wb] at h2 lb
  generalize nv a = m at *
  generalize nv b = n at *
  have va := val_limbs m
  have vb := val_limbs n
  have ga := @lt_of_length m n
  have gb := @lt_of_length n m
  have wa' := wf_limbs m
  have wb' := wf_limbs n
  refine ret_of_awp tab Tryz.func154 rfl rfl (Nat.le_of_ble_eq_true rfl) (fun w0 F0 => ?_)
  repeat' (first
    | (show awpL _ _ _ _ _; first | refine goL ?_ | refine cl 155 tt rfl rfl rfl (hr := h1) (k := ?_) | refine cl 155 tt rfl rfl rfl (hr := h2) (k := ?_) | (refine gdLG ?_ ?_ <;> intro _ <;> try (exfalso; omega)))
    | (show awp _ _ _ _; first | refine goA ?_ | refine rg 9 8 ?_ | refine rg 11 8 ?_ | (refine cdG ?_ ?_ <;> intro _ <;> try (exfalso; omega)))
    | (show andThen _ _ _ _; refine goN ?_)
    | (show inBlock _ _ _ _; refine goB ?_)
    | (show awpR _ _ _ _ _ _ _; first | refine goR ?_ | refine clR 155 tt rfl rfl rfl (hr := h1) (k := ?_) | refine clR 155 tt rfl rfl rfl (hr := h2) (k := ?_) | (refine gdRG ?_ ?_ <;> intro _ <;> try (exfalso; omega)))
    | (show retPost _ _ _ _ _; refine finG ?_))
  · have := ga (by omega)
    simp only [cmpN, this, if_true]
  · have := gb (by omega)
    simp only [cmpN, show ¬ m < n by omega, this, if_true, if_false]
  · clear h1 h2
    generalize limbs m = a' at *
    generalize limbs n = b' at *
    rename_i h
    refine awp_loop1 (fun i : Nat => ([(0, .d (u32s a')), (1, .d (u32s b')), (5, .d (.int .i64 ((i : Int) - 1)))], [])) (fun i => i ≤ a'.length ∧ a'.drop i = b'.drop i) (fun i => i) a'.length ⟨Nat.le_refl _, by simp; omega⟩ ⟨rfl, rfl, rfl, rfl⟩ trivial (fun i hi => ?_)
    obtain ⟨h1, h2⟩ := hi
    repeat' (first
      | (show awpL _ _ _ _ _; first | refine goL ?_ | (refine gdLG ?_ ?_ <;> intro _ <;> try (exfalso; omega)))
      | (show awp _ _ _ _; first | refine goA ?_ | refine rg 9 8 ?_ | refine rg 11 8 ?_ | (refine cdG ?_ ?_ <;> intro _ <;> try (exfalso; omega)))
      | (show andThen _ _ _ _; refine goN ?_)
      | (show inBlock _ _ _ _; refine goB ?_)
      | (show awpR _ _ _ _ _ _ _; first | refine goR ?_ | (refine gdRG ?_ ?_ <;> intro _ <;> try (exfalso; omega)))
      | (show retPost _ _ _ _ _; refine finG ?_))
    all_goals first | have e : ((i : Int) - 1).toNat = i - 1 := by omega
    · rename_i h3 h7
      have h6 : i - 1 + 1 = i := by omega
      rw [← h6] at h2
      have := val_lt_of wa' (by omega) (by omega) h2 (by rw [e] at h7; omega)
      simp [cmpN, show m < n by omega]
    · rename_i h3 h8 h7
      have h6 : i - 1 + 1 = i := by omega
      rw [← h6] at h2
      have := val_lt_of wb' (by omega) (by omega) h2.symm (by rw [e] at h7; omega)
      simp [cmpN, show n < m by omega, show ¬ m < n by omega]
    · rename_i h3 h7 h8
      have h6 : i - 1 + 1 = i := by omega
      rw [← h6] at h2
      rw [e] at h7 h8
      have h9 : a'.getD (i - 1) 0 = b'.getD (i - 1) 0 := by omega
      exact ⟨i - 1, ⟨by omega, drop_eq_of (by omega) (by omega) h2 h9⟩, by omega, ⟨rfl, rfl, iv (by omega), rfl⟩, trivial⟩
    · have : i = 0 := by omega
      subst this
      have : a' = b' := by simpa using h2
      simp [cmpN, show ¬ n < m by rw [← va, ← vb, this]; omega, show ¬ m < n by rw [← va, ← vb, this]; omega]

theorem natural_Add (a b : List Nat) (wa : WF a) (wb : WF b) (hla : a.length < 1000000000000) (hlb : b.length < 1000000000000) : Ret Tryz.prog 149 [u32s a, u32s b] (· = u32s (limbs (nv a + nv b))) := by
  have h1 := natural_value a (by omega)
  have h2 := natural_value b (by omega)
  have la := takeL_le a
  have lb := takeL_le b
  have wa' := wf_takeL wa
  have wb' := wf_takeL wb
  have va : val (takeL a) = nv a := rfl
  have vb : val (takeL b) = nv b := rfl
  refine ret_of_awp tab Tryz.func149 rfl rfl (Nat.le_of_ble_eq_true rfl) (fun w0 F0 => ?_)
  repeat' (first
    | (show awpL _ _ _ _ _; first | refine goL ?_ | refine cl 155 tt rfl rfl rfl (hr := h1) (k := ?_) | refine cl 155 tt rfl rfl rfl (hr := h2) (k := ?_) | (refine gdLG ?_ ?_ <;> intro _ <;> try (exfalso; omega)))
    | (show awp _ _ _ _; first | refine stopA 2 tt ?_)
    | (show awp _ _ _ _; first | refine goA ?_ | (refine cdG ?_ ?_ <;> intro _ <;> try (exfalso; omega)))
    | (show andThen _ _ _ _; refine goN ?_)
    | (show inBlock _ _ _ _; refine goB ?_)
    | (show retPost _ _ _ _ _; refine finG ?_))
  refine stopOut ?_
  clear h1 h2
  generalize takeL a = a0 at *
  generalize takeL b = b0 at *
  refine awp_meet2 (fun (p q : List Nat) => ([(0, .d (u32s p)), (1, .d (u32s q))], [])) (fun p q => WF p ∧ WF q ∧ q.length ≤ p.length ∧ p.length < 1000000000000 ∧ val p + val q = nv a + nv b) (fun p q h => ?_) ?_
  · obtain ⟨wp, wq, hqp, hpl, hval⟩ := h
    repeat' (first
      | (show awpL _ _ _ _ _; first | refine goL ?_ | (refine gdLG ?_ ?_ <;> intro _ <;> try (exfalso; omega)))
      | (show awp _ _ _ _; first | refine goA ?_ | (refine cdG ?_ ?_ <;> intro _ <;> try (exfalso; omega)))
      | (show andThen _ _ _ _; refine goN ?_)
      | (show inBlock _ _ _ _; refine goB ?_)
      | (show retPost _ _ _ _ _; refine finG ?_))
    refine awp_loop2 (fun (i : Nat) (o : List Nat × Nat) => ([(0, .d (u32s p)), (1, .d (u32s q)), (5, .own 24 0 (p.length + 1) 99 1), (6, .d (.int .u32 o.2)), (25, .d (u32s p)), (26, .d (.int .i64 p.length)), (27, .d (.int .i64 i))], [(24, .data 99 1 (eN .u32) 0 o.1)])) (fun i o => i ≤ p.length ∧ o.1.length = p.length + 1 ∧ WF o.1 ∧ o.2 ≤ 1 ∧ val (o.1.take i) + o.2 * B ^ i = val (p.take i) + val (q.take i)) (fun i o => p.length - i) 0 (List.replicate (p.length + 1) 0, 0) ⟨by omega, by simp, wf_replicate _, by omega, by simp [val]⟩ ⟨rfl, rfl, rfl, rfl, rfl, rfl, rfl, rfl⟩ ⟨rfl, trivial⟩ (fun i o h => ?_)
    obtain ⟨o, c⟩ := o
    obtain ⟨i1, i2, i3, i4, i5⟩ := h
    simp only at i2 i3 i4 i5
    have gp := wp.getD i
    have gq := wq.getD i
    rw [B_val] at gp gq
    by_cases hin : i < p.length
    · have hstep := addL_step wp wq i3 (by omega) i4 i5
      by_cases hq : i < q.length
      · repeat' (first
          | (show awpL _ _ _ _ _; first | refine goL ?_ | refine cl 168 tt rfl rfl rfl (hr := bits_Add32 _ _ _ gp gq i4) (k := ?_) | (refine gdLG ?_ ?_ <;> intro _ <;> try (exfalso; omega)))
          | (show awp _ _ _ _; first | refine goA ?_ | (refine cdG ?_ ?_ <;> intro _ <;> try (exfalso; omega)))
          | (show andThen _ _ _ _; refine goN ?_)
          | (show inBlock _ _ _ _; refine goB ?_)
          | (show retPost _ _ _ _ _; refine finG ?_))
        exact ⟨i + 1, (_, _), ⟨by omega, by simp; omega, hstep.1, hstep.2.1, hstep.2.2⟩, by omega, ⟨rfl, rfl, rfl, rfl, rfl, rfl, iv (by omega), rfl⟩, rfl, trivial⟩
      · have hq0 := getD_take_le q i (by omega)
        rw [hq0] at hstep
        repeat' (first
          | (show awpL _ _ _ _ _; first | refine goL ?_ | refine cl 168 tt rfl rfl rfl (hr := bits_Add32 _ 0 _ gp (by omega) i4) (k := ?_) | (refine gdLG ?_ ?_ <;> intro _ <;> try (exfalso; omega)))
          | (show awp _ _ _ _; first | refine goA ?_ | (refine cdG ?_ ?_ <;> intro _ <;> try (exfalso; omega)))
          | (show andThen _ _ _ _; refine goN ?_)
          | (show inBlock _ _ _ _; refine goB ?_)
          | (show retPost _ _ _ _ _; refine finG ?_))
        exact ⟨i + 1, (_, _), ⟨by omega, by simp; omega, hstep.1, hstep.2.1, hstep.2.2⟩, by omega, ⟨rfl, rfl, rfl, rfl, rfl, rfl, iv (by omega), rfl⟩, rfl, trivial⟩
    · have : i = p.length := by omega
      subst this
      have hset := val_take_set o p.length c (by omega)
      have hwf : WF (o.set p.length c) := i3.set _ (by rw [B_val]; omega)
      have ht := natural_trimmed (o.set p.length c) (by simp; omega)
      rw [trimL_limbs hwf] at ht
      rw [val_take_all _ (by simp; omega), Nat.mul_comm, i5, val_take_all p (Nat.le_refl _), val_take_all q (by omega), hval] at hset
      rw [hset] at ht
      repeat' (first
        | (show awpL _ _ _ _ _; first | refine goL ?_ | refine cl 156 tt rfl rfl rfl (hr := ht) (k := ?_) | (refine gdLG ?_ ?_ <;> intro _ <;> try (exfalso; omega)))
        | (show awp _ _ _ _; first | refine goA ?_ | (refine cdG ?_ ?_ <;> intro _ <;> try (exfalso; omega)))
        | (show andThen _ _ _ _; refine goN ?_)
        | (show inBlock _ _ _ _; refine goB ?_)
        | (show retPost _ _ _ _ _; refine finG ?_))
      rfl
  · repeat' (first
      | (show awpL _ _ _ _ _; first | refine goL ?_ | (refine gdLG ?_ ?_ <;> intro _ <;> try (exfalso; omega)))
      | (show awp _ _ _ _; first | refine goA ?_ | (refine cdG ?_ ?_ <;> intro _ <;> try (exfalso; omega)))
      | (show andThen _ _ _ _; refine goN ?_)
      | (show inBlock _ _ _ _; refine goB ?_)
      | (show retPost _ _ _ _ _; refine finG ?_))
    · exact ⟨b0, a0, ⟨wb', wa', by omega, by omega, by omega⟩, ⟨rfl, rfl, rfl⟩, trivial⟩
    · exact ⟨a0, b0, ⟨wa', wb', by omega, by omega, by omega⟩, ⟨rfl, rfl, rfl⟩, trivial⟩
theorem natural_Sub (a b : List Nat) (wa : WF a) (wb : WF b) (hla : a.length < 10000000000) (hlb : b.length < 10000000000) : Ret Tryz.prog 157 [u32s a, u32s b] (· = if nv a < nv b then .tup [u32s [], .bool false] else .tup [u32s (limbs (nv a - nv b)), .bool true]) := by
  have h1 := natural_value a (by omega)
  have h2 := natural_value b (by omega)
  have la := takeL_le a
  have lb := takeL_le b
  have wa' := wf_takeL wa
  have wb' := wf_takeL wb
  have va : val (takeL a) = nv a := rfl
  have vb : val (takeL b) = nv b := rfl
  have hc := natural_Compare (takeL a) (takeL b) wa' wb' (by omega) (by omega)
  have e1 : nv (takeL a) = nv a := by rw [takeL_limbs wa, nv_limbs]
  have e2 : nv (takeL b) = nv b := by rw [takeL_limbs wb, nv_limbs]
  have hlen : nv b ≤ nv a → (takeL b).length ≤ (takeL a).length := fun h => by rw [takeL_limbs wa, takeL_limbs wb]; exact limbs_len_mono h
  rw [e1, e2] at hc
  generalize takeL a = p at *
  generalize takeL b = q at *
  have hcn := cmpN_neg (nv a) (nv b)
  by_cases hlt : nv a < nv b
  · rw [if_pos hlt]
    refine ret_of_awp tab Tryz.func157 rfl rfl (Nat.le_of_ble_eq_true rfl) (fun w0 F0 => ?_)
    repeat' (first
      | (show awpL _ _ _ _ _; first | refine goL ?_ | refine cl 155 tt rfl rfl rfl (hr := h1) (k := ?_) | refine cl 155 tt rfl rfl rfl (hr := h2) (k := ?_) | refine cl 154 tt rfl rfl rfl (hr := hc) (k := ?_) | (refine gdLG ?_ ?_ <;> intro _ <;> try (exfalso; omega)))
      | (show awp _ _ _ _; first | refine goA ?_ | (refine cdG ?_ ?_ <;> intro _ <;> try (exfalso; omega)))
      | (show andThen _ _ _ _; refine goN ?_)
      | (show inBlock _ _ _ _; refine goB ?_)
      | (show retPost _ _ _ _ _; refine finTG ?_))
    exact leT
  · rw [if_neg hlt]
    have hqp := hlen (by omega)
    refine ret_of_awp tab Tryz.func157 rfl rfl (Nat.le_of_ble_eq_true rfl) (fun w0 F0 => ?_)
    repeat' (first
      | (show awpL _ _ _ _ _; first | refine goL ?_ | refine cl 155 tt rfl rfl rfl (hr := h1) (k := ?_) | refine cl 155 tt rfl rfl rfl (hr := h2) (k := ?_) | refine cl 154 tt rfl rfl rfl (hr := hc) (k := ?_) | (refine gdLG ?_ ?_ <;> intro _ <;> try (exfalso; omega)))
      | (show awp _ _ _ _; first | refine goA ?_ | (refine cdG ?_ ?_ <;> intro _ <;> try (exfalso; omega)))
      | (show andThen _ _ _ _; refine goN ?_)
      | (show inBlock _ _ _ _; refine goB ?_)
      | (show retPost _ _ _ _ _; refine finTG ?_))
    refine awp_loop2 (fun (i : Nat) (o : List Nat × Nat) => ([(0, .d (u32s p)), (1, .d (u32s q)), (6, .own 21 0 p.length 99 1), (7, .d (.int .u32 o.2)), (22, .d (u32s p)), (23, .d (.int .i64 p.length)), (24, .d (.int .i64 i))], [(21, .data 99 1 (eN .u32) 0 o.1)])) (fun i o => i ≤ p.length ∧ o.1.length = p.length ∧ WF o.1 ∧ o.2 ≤ 1 ∧ val (o.1.take i) + val (q.take i) = val (p.take i) + o.2 * B ^ i) (fun i o => p.length - i) 0 (List.replicate p.length 0, 0) ⟨by omega, by simp, wf_replicate _, by omega, by simp [val]⟩ ⟨rfl, rfl, rfl, rfl, rfl, rfl, rfl, rfl⟩ ⟨rfl, trivial⟩ (fun i o h => ?_)
    obtain ⟨o, c⟩ := o
    obtain ⟨i1, i2, i3, i4, i5⟩ := h
    simp only at i2 i3 i4 i5
    have gp := wa'.getD i
    have gq := wb'.getD i
    rw [B_val] at gp gq
    by_cases hin : i < p.length
    · obtain ⟨d, hd⟩ : ∃ d : Nat, ((p.getD i 0 : Nat) : Int) - (q.getD i 0 : Nat) - c + (if p.getD i 0 < q.getD i 0 + c then 4294967296 else 0) = d := ⟨(((p.getD i 0 : Nat) : Int) - (q.getD i 0 : Nat) - c + (if p.getD i 0 < q.getD i 0 + c then 4294967296 else 0)).toNat, by split <;> omega⟩
      have hstep := subL_step wa' wb' i3 (by omega) i4 i5 hd.symm
      have hsub := bits_Sub32 _ _ _ gp gq i4
      rw [hd] at hsub
      obtain ⟨c', hc', hc1⟩ : ∃ c' : Nat, (if p.getD i 0 < q.getD i 0 + c then 1 else 0) = c' ∧ c' ≤ 1 := ⟨_, rfl, by split <;> omega⟩
      rw [hc'] at hstep
      rw [show ((if p.getD i 0 < q.getD i 0 + c then 1 else 0 : Int)) = (c' : Int) by rw [← hc']; split <;> rfl] at hsub
      by_cases hq : i < q.length
      · repeat' (first
          | (show awpL _ _ _ _ _; first | refine goL ?_ | refine cl 174 tt rfl rfl rfl (hr := hsub) (k := ?_) | (refine gdLG ?_ ?_ <;> intro _ <;> try (exfalso; omega)))
          | (show awp _ _ _ _; first | refine goA ?_ | (refine cdG ?_ ?_ <;> intro _ <;> try (exfalso; omega)))
          | (show andThen _ _ _ _; refine goN ?_)
          | (show inBlock _ _ _ _; refine goB ?_)
          | (show retPost _ _ _ _ _; refine finG ?_))
        exact ⟨i + 1, (_, _), ⟨by omega, by simp; omega, hstep.1, hc1, hstep.2⟩, by omega, ⟨rfl, rfl, rfl, rfl, rfl, rfl, iv (by omega), rfl⟩, rfl, trivial⟩
      · have hq0 := getD_take_le q i (by omega)
        rw [hq0] at hsub
        repeat' (first
          | (show awpL _ _ _ _ _; first | refine goL ?_ | refine cl 174 tt rfl rfl rfl (hr := hsub) (k := ?_) | (refine gdLG ?_ ?_ <;> intro _ <;> try (exfalso; omega)))
          | (show awp _ _ _ _; first | refine goA ?_ | (refine cdG ?_ ?_ <;> intro _ <;> try (exfalso; omega)))
          | (show andThen _ _ _ _; refine goN ?_)
          | (show inBlock _ _ _ _; refine goB ?_)
          | (show retPost _ _ _ _ _; refine finG ?_))
        exact ⟨i + 1, (_, _), ⟨by omega, by simp; omega, hstep.1, hc1, hstep.2⟩, by omega, ⟨rfl, rfl, rfl, rfl, rfl, rfl, iv (by omega), rfl⟩, rfl, trivial⟩
    · have : i = p.length := by omega
      subst this
      have ht := natural_trimmed o (by omega)
      rw [trimL_limbs i3] at ht
      rw [val_take_all o (by omega), val_take_all p (Nat.le_refl _), val_take_all q (by omega)] at i5
      have hlo := val_lt i3
      rw [i2] at hlo
      have hc0 : c = 0 := by
        refine Nat.le_zero.1 (Nat.le_of_not_lt fun hc => ?_)
        have := Nat.mul_le_mul_right (B ^ p.length) (show 1 ≤ c from hc)
        have := val_lt wb'
        have : val q < B ^ p.length := Nat.lt_of_lt_of_le this (Nat.pow_le_pow_right (by decide) hqp)
        omega
      subst hc0
      rw [show val o = nv a - nv b by omega] at ht
      repeat' (first
        | (show awpL _ _ _ _ _; first | refine goL ?_ | refine cl 156 tt rfl rfl rfl (hr := ht) (k := ?_) | (refine gdLG ?_ ?_ <;> intro _ <;> try (exfalso; omega)))
        | (show awp _ _ _ _; first | refine goA ?_ | (refine cdG ?_ ?_ <;> intro _ <;> try (exfalso; omega)))
        | (show andThen _ _ _ _; refine goN ?_)
        | (show inBlock _ _ _ _; refine goB ?_)
        | (show retPost _ _ _ _ _; refine finTG ?_))
      exact leT
theorem natural_Mul (a b : List Nat) (wa : WF a) (wb : WF b) (hla : a.length < 10000000000) (hlb : b.length < 10000000000) : Ret Tryz.prog 124 [u32s a, u32s b] (· = u32s (limbs (nv a * nv b))) := by
  have h1 := natural_value a (by omega)
  have h2 := natural_value b (by omega)
  have la := takeL_le a
  have lb := takeL_le b
  have wa' := wf_takeL wa
  have wb' := wf_takeL wb
  have va : val (takeL a) = nv a := rfl
  have vb : val (takeL b) = nv b := rfl
  generalize takeL a = p at *
  generalize takeL b = q at *
  refine ret_of_awp tab Tryz.func124 rfl rfl (Nat.le_of_ble_eq_true rfl) (fun w0 F0 => ?_)
  repeat' (first
    | (show awpL _ _ _ _ _; first | refine goL ?_ | refine cl 155 tt rfl rfl rfl (hr := h1) (k := ?_) | refine cl 155 tt rfl rfl rfl (hr := h2) (k := ?_) | (refine gdLG ?_ ?_ <;> intro _ <;> try (exfalso; omega)))
    | (show awp _ _ _ _; first | refine goA ?_ | (refine cdG ?_ ?_ <;> intro _ <;> try (exfalso; omega)))
    | (show andThen _ _ _ _; refine goN ?_)
    | (show inBlock _ _ _ _; refine goB ?_)
    | (show retPost _ _ _ _ _; refine finG ?_))
  refine awp_loop2 (fun (i : Nat) (o : List Nat) => ([(0, .d (u32s p)), (1, .d (u32s q)), (5, .own 20 0 (p.length + q.length) 99 1), (21, .d (u32s p)), (22, .d (.int .i64 p.length)), (23, .d (.int .i64 i))], [(20, .data 99 1 (eN .u32) 0 o)])) (fun i o => i ≤ p.length ∧ o.length = p.length + q.length ∧ WF o ∧ val (o.take (i + q.length)) = val (p.take i) * val q) (fun i o => p.length - i) 0 (List.replicate (p.length + q.length) 0) ⟨by omega, by simp, wf_replicate _, ?_⟩ ⟨rfl, rfl, rfl, rfl, rfl, rfl, rfl⟩ ⟨rfl, trivial⟩ (fun i o h => ?_)
  · rw [List.take_replicate, List.take_zero]
    have : ∀ n, val (List.replicate n 0) = 0 := fun n => by induction n with
      | zero => rfl
      | succ n ih => rw [List.replicate_succ, val, ih]; rfl
    rw [this]; simp [val]
  obtain ⟨i1, i2, i3, i4⟩ := h
  by_cases hin : i < p.length
  · have gp := wa'.getD i
    rw [B_val] at gp
    have hps := val_take_succ p i
    repeat' (first
      | (show awpL _ _ _ _ _; first | refine goL ?_ | (refine gdLG ?_ ?_ <;> intro _ <;> try (exfalso; omega)))
      | (show awp _ _ _ _; first | refine goA ?_ | (refine cdG ?_ ?_ <;> intro _ <;> try (exfalso; omega)))
      | (show andThen _ _ _ _; refine goN ?_)
      | (show inBlock _ _ _ _; refine goB ?_)
      | (show retPost _ _ _ _ _; refine finG ?_))
    refine awp_loop2 (fun (j : Nat) (o : List Nat × Nat) => ([(0, .d (u32s p)), (1, .d (u32s q)), (5, .own 20 0 (p.length + q.length) 99 1), (21, .d (u32s p)), (22, .d (.int .i64 p.length)), (23, .d (.int .i64 i)), (6, .d (.int .i64 i)), (7, .d (.int .u32 (p.getD i 0 : Nat))), (8, .d (.int .u64 o.2)), (28, .d (u32s q)), (29, .d (.int .i64 q.length)), (30, .d (.int .i64 j))], [(20, .data 99 1 (eN .u32) 0 o.1)])) (fun j o => j ≤ q.length ∧ o.1.length = p.length + q.length ∧ WF o.1 ∧ o.2 < 4294967296 ∧ val (o.1.take (i + q.length)) + o.2 * B ^ (i + j) = val (p.take i) * val q + B ^ i * (p.getD i 0 * val (q.take j))) (fun j o => q.length - j) 0 (o, 0) ⟨by omega, i2, i3, by omega, by simp [val, i4]⟩ ⟨rfl, rfl, rfl, rfl, rfl, rfl, rfl, rfl, rfl, rfl, rfl, rfl, rfl⟩ ⟨rfl, trivial⟩ (fun j o h => ?_)
    obtain ⟨o, c⟩ := o
    obtain ⟨j1, j2, j3, j4, j5⟩ := h
    simp only at j2 j3 j4 j5
    by_cases hjn : j < q.length
    · have gq := wb'.getD j
      rw [B_val] at gq
      have hstep := mulL_step j3 (show i + j < i + q.length by omega) (by omega) gp gq j4 j5
      have hxy : ((p.getD i 0 : Nat) : Int) * ((q.getD j 0 : Nat) : Int) = ((p.getD i 0 * q.getD j 0 : Nat) : Int) := by rw [Int.natCast_mul]
      have hxy2 : p.getD i 0 * q.getD j 0 ≤ 4294967295 * 4294967295 := Nat.mul_le_mul (by omega) (by omega)
      have go := j3.getD (i + j)
      rw [B_val] at go
      repeat' (first
        | (show awpL _ _ _ _ _; first | refine goL ?_ | (refine gdLG ?_ ?_ <;> intro _ <;> try (exfalso; omega)))
        | (show awp _ _ _ _; first | refine goA ?_ | (refine cdG ?_ ?_ <;> intro _ <;> try (exfalso; omega)))
        | (show andThen _ _ _ _; refine goN ?_)
        | (show inBlock _ _ _ _; refine goB ?_)
        | (show retPost _ _ _ _ _; refine finG ?_))
      refine ⟨j + 1, (o.set (i + j) ((p.getD i 0 * q.getD j 0 + o.getD (i + j) 0 + c) % 4294967296), (p.getD i 0 * q.getD j 0 + o.getD (i + j) 0 + c) / 4294967296), ⟨by omega, by simp; omega, hstep.2.1, hstep.2.2.1, ?_⟩, by omega, ⟨rfl, rfl, rfl, rfl, rfl, rfl, rfl, rfl, iv ?_, rfl, rfl, iv (by omega), rfl⟩, blkEq ?_, trivial⟩
      · show _ + _ * B ^ (i + j + 1) = _
        rw [hstep.2.2.2, val_take_succ q j, Nat.mul_add, Nat.mul_add, Nat.pow_add]
        congr 2
        ac_rfl
      · dsimp only; omega
      · dsimp only; congr 1; omega
    · have : j = q.length := by omega
      subst this
      rw [List.take_of_length_le (Nat.le_refl _)] at j5
      have hfin : val ((o.set (i + q.length) c).take (i + q.length + 1)) = val (p.take (i + 1)) * val q := by
        rw [val_take_set o _ _ (by omega), Nat.mul_comm (B ^ (i + q.length)), j5, hps, Nat.add_mul, Nat.mul_assoc]
      repeat' (first
        | (show awpL _ _ _ _ _; first | refine goL ?_ | (refine gdLG ?_ ?_ <;> intro _ <;> try (exfalso; omega)))
        | (show awp _ _ _ _; first | refine goA ?_ | (refine cdG ?_ ?_ <;> intro _ <;> try (exfalso; omega)))
        | (show andThen _ _ _ _; refine goN ?_)
        | (show inBlock _ _ _ _; refine goB ?_)
        | (show retPost _ _ _ _ _; refine finG ?_))
      refine ⟨i + 1, o.set (i + q.length) c, ⟨by omega, by simp; omega, j3.set _ (by rw [B_val]; omega), ?_⟩, by omega, ⟨rfl, rfl, rfl, rfl, rfl, iv (by omega), rfl⟩, blkEq ?_, trivial⟩
      · rw [← hfin, show i + 1 + q.length = i + q.length + 1 by omega]
      · first | rfl | (dsimp only; congr 1; omega)
  · have : i = p.length := by omega
    subst this
    have ht := natural_trimmed o (by omega)
    rw [trimL_limbs i3] at ht
    rw [val_take_all o (by omega), val_take_all p (Nat.le_refl _), va, vb] at i4
    rw [i4] at ht
    repeat' (first
      | (show awpL _ _ _ _ _; first | refine goL ?_ | refine cl 156 tt rfl rfl rfl (hr := ht) (k := ?_) | (refine gdLG ?_ ?_ <;> intro _ <;> try (exfalso; omega)))
      | (show awp _ _ _ _; first | refine goA ?_ | (refine cdG ?_ ?_ <;> intro _ <;> try (exfalso; omega)))
      | (show andThen _ _ _ _; refine goN ?_)
      | (show inBlock _ _ _ _; refine goB ?_)
      | (show retPost _ _ _ _ _; refine finG ?_))
    rfl
theorem natural_short (a : List Nat) (d : Nat) (wa : WF a) (hla : a.length < 10000000000) (hd : 0 < d) (hdB : d < 4294967296) : Ret Tryz.prog 172 [u32s a, .int .u32 d] (· = .tup [u32s (limbs (val a / d)), .int .u32 (val a % d : Nat)]) := by
  refine ret_of_awp tab Tryz.func172 rfl rfl (Nat.le_of_ble_eq_true rfl) (fun w0 F0 => ?_)
  repeat' (first
    | (show awpL _ _ _ _ _; first | refine goL ?_ | (refine gdLG ?_ ?_ <;> intro _ <;> try (exfalso; omega)))
    | (show awp _ _ _ _; first | refine goA ?_ | (refine cdG ?_ ?_ <;> intro _ <;> try (exfalso; omega)))
    | (show andThen _ _ _ _; refine goN ?_)
    | (show inBlock _ _ _ _; refine goB ?_)
    | (show retPost _ _ _ _ _; refine finG ?_))
  refine awp_loop2 (fun (i : Nat) (o : List Nat × Nat) => ([(0, .d (u32s a)), (1, .d (.int .u32 d)), (4, .own 9 0 a.length 99 1), (5, .d (.int .u32 o.2)), (6, .d (.int .i64 ((i : Int) - 1)))], [(9, .data 99 1 (eN .u32) 0 o.1)])) (fun i o => i ≤ a.length ∧ o.1.length = a.length ∧ WF o.1 ∧ o.2 < d ∧ val (a.drop i) = val (o.1.drop i) * d + o.2) (fun i o => i) a.length (List.replicate a.length 0, 0) ⟨by omega, by simp, wf_replicate _, hd, by simp [val]⟩ ⟨rfl, rfl, rfl, rfl, rfl, rfl⟩ ⟨rfl, trivial⟩ (fun i o h => ?_)
  obtain ⟨o, r⟩ := o
  obtain ⟨i1, i2, i3, i4, i5⟩ := h
  simp only at i2 i3 i4 i5
  by_cases h0 : 0 < i
  · obtain ⟨k, rfl⟩ : ∃ k, i = k + 1 := ⟨i - 1, by omega⟩
    have hstep := shortL_step wa i3 (show k < a.length by omega) (by omega) hd hdB i4 i5
    have ga := wa.getD k
    rw [B_val] at ga
    have hdv := bits_Div32 r (a.getD k 0) d i4 ga hdB
    have e : (((k + 1 : Nat) : Int) - 1).toNat = k := by omega
    rw [← e] at hdv
    repeat' (first
      | (show awpL _ _ _ _ _; first | refine goL ?_ | refine cl 177 tt rfl rfl rfl (hr := hdv) (k := ?_) | (refine gdLG ?_ ?_ <;> intro _ <;> try (exfalso; omega)))
      | (show awp _ _ _ _; first | refine goA ?_ | (refine cdG ?_ ?_ <;> intro _ <;> try (exfalso; omega)))
      | (show andThen _ _ _ _; refine goN ?_)
      | (show inBlock _ _ _ _; refine goB ?_)
      | (show retPost _ _ _ _ _; refine finG ?_))
    refine ⟨k, (o.set k _, _), ⟨by omega, by simp; omega, hstep.2.2.1, hstep.2.1, hstep.2.2.2⟩, by omega, ⟨rfl, rfl, rfl, by rw [e]; rfl, iv (by omega), rfl⟩, blkEq ?_, trivial⟩
    rw [e]
  · have : i = 0 := by omega
    subst this
    have ht := natural_trimmed o (by omega)
    rw [trimL_limbs i3] at ht
    rw [List.drop_zero, List.drop_zero] at i5
    have e1 : val a / d = val o := by
      rw [i5, Nat.mul_comm, Nat.mul_add_div hd, Nat.div_eq_of_lt i4, Nat.add_zero]
    have e2 : val a % d = r := by rw [i5, Nat.mul_comm, Nat.mul_add_mod, Nat.mod_eq_of_lt i4]
    rw [e1, e2]
    repeat' (first
      | (show awpL _ _ _ _ _; first | refine goL ?_ | refine cl 156 tt rfl rfl rfl (hr := ht) (k := ?_) | (refine gdLG ?_ ?_ <;> intro _ <;> try (exfalso; omega)))
      | (show awp _ _ _ _; first | refine goA ?_ | (refine cdG ?_ ?_ <;> intro _ <;> try (exfalso; omega)))
      | (show andThen _ _ _ _; refine goN ?_)
      | (show inBlock _ _ _ _; refine goB ?_)
      | (show retPost _ _ _ _ _; refine finTG ?_))
    exact leT
end Go.Proofs.YtlphlodailailaaGreat

/-
  Lists of limbs of a fixed length; shifts; the steps of a long division. Conditions: as each says.
-/
namespace Go.Vw
def padL : Nat → Nat → List Nat
  | 0, _ => []
  | n + 1, v => v % B :: padL n (v / B)
theorem padL_len : ∀ n v, (padL n v).length = n
  | 0, v => rfl
  | n + 1, v => by simp [padL, padL_len n]
theorem padL_wf : ∀ n v, WF (padL n v)
  | 0, v => WF.nil
  | n + 1, v => fun x hx => by
    simp only [padL, List.mem_cons] at hx
    rcases hx with rfl | hx
    · exact Nat.mod_lt _ (by decide)
    · exact padL_wf n _ x hx
theorem padL_val : ∀ n v, val (padL n v) = v % B ^ n
  | 0, v => by simp [padL, val, Nat.mod_one]
  | n + 1, v => by
    rw [padL, val, padL_val n, Nat.pow_succ, Nat.mul_comm (B ^ n), Nat.mod_mul]
theorem wf_ext : ∀ {a b : List Nat}, WF a → WF b → a.length = b.length → val a = val b → a = b
  | [], [], _, _, _, _ => rfl
  | [], _ :: _, _, _, h, _ => by simp at h
  | _ :: _, [], _, _, h, _ => by simp at h
  | x :: a, y :: b, ha, hb, hl, hv => by
    have h1 := ha.head
    have h2 := hb.head
    simp only [val] at hv
    rw [B_val] at hv h1 h2
    have e1 : x = y := by omega
    have e2 : val a = val b := by omega
    rw [e1, wf_ext ha.tail hb.tail (by simpa using hl) e2]
theorem padL_eq {l : List Nat} {n v : Nat} (h : WF l) (hl : l.length = n) (hv : val l = v) : l = padL n v := by
  subst hl hv
  exact wf_ext h (padL_wf _ _) (padL_len _ _).symm (by rw [padL_val, Nat.mod_eq_of_lt (val_lt h)])
theorem shift_step {o a : List Nat} {i s : Nat} (ha : WF a) (ho : WF o) (hi : i + 1 < o.length) (hs : s < 32) (hlo : o.getD i 0 < 2 ^ s) (hv : val (o.take (i + 1)) = val (a.take i) * 2 ^ s) :
    (o.getD i 0 ||| (a.getD i 0 * 2 ^ s) % 4294967296) = o.getD i 0 + (a.getD i 0 * 2 ^ s) % 4294967296 ∧ o.getD i 0 + (a.getD i 0 * 2 ^ s) % 4294967296 < 4294967296 ∧ (a.getD i 0 * 2 ^ s) / 4294967296 < 2 ^ s ∧ a.getD i 0 * 2 ^ s < 18446744073709551616 ∧
    WF ((o.set i (o.getD i 0 + (a.getD i 0 * 2 ^ s) % 4294967296)).set (i + 1) ((a.getD i 0 * 2 ^ s) / 4294967296)) ∧
    val (((o.set i (o.getD i 0 + (a.getD i 0 * 2 ^ s) % 4294967296)).set (i + 1) ((a.getD i 0 * 2 ^ s) / 4294967296)).take (i + 2)) = val (a.take (i + 1)) * 2 ^ s := by
  have h1 := ha.getD i
  rw [B_val] at h1
  have hpow : 2 ^ s * 2 ^ (32 - s) = 4294967296 := by rw [← Nat.pow_add, show s + (32 - s) = 32 by omega]
  have hp0 : 0 < 2 ^ s := Nat.pow_pos (by decide)
  have hp1 : 2 ^ s ≤ 2147483648 := Nat.le_trans (Nat.pow_le_pow_right (by decide) (show s ≤ 31 by omega)) (by decide)
  obtain ⟨x, hx⟩ : ∃ x, a.getD i 0 = x := ⟨_, rfl⟩
  obtain ⟨c, hc⟩ : ∃ c, o.getD i 0 = c := ⟨_, rfl⟩
  rw [hx] at h1 ⊢
  rw [hc] at hlo ⊢
  have hlow : (x * 2 ^ s) % 4294967296 = (x % 2 ^ (32 - s)) * 2 ^ s := by
    rw [← hpow, Nat.mul_comm (2 ^ s), Nat.mul_mod_mul_right]
  have hm : x % 2 ^ (32 - s) < 2 ^ (32 - s) := Nat.mod_lt _ (Nat.pow_pos (by decide))
  have hle : (x % 2 ^ (32 - s) + 1) * 2 ^ s ≤ 4294967296 := by
    rw [← hpow, Nat.mul_comm (2 ^ s)]; exact Nat.mul_le_mul_right _ hm
  rw [Nat.add_mul, Nat.one_mul, ← hlow] at hle
  have hxs : x * 2 ^ s < 4294967296 * 2 ^ s := Nat.mul_lt_mul_of_pos_right h1 hp0
  refine ⟨?_, by omega, ?_, ?_, ?_, ?_⟩
  · rw [Nat.or_comm, hlow, or_low _ _ _ hlo, Nat.add_comm]
  · rw [Nat.div_lt_iff_lt_mul (by decide), Nat.mul_comm (2 ^ s)]; exact hxs
  · have := Nat.mul_le_mul_left 4294967296 hp1
    omega
  · refine (ho.set _ (by rw [B_val]; omega)).set _ ?_
    rw [B_val]
    have : (x * 2 ^ s) / 4294967296 < 2 ^ s := by rw [Nat.div_lt_iff_lt_mul (by decide), Nat.mul_comm (2 ^ s)]; exact hxs
    omega
  · rw [val_take_set _ _ _ (by simpa using hi), val_take_set _ _ _ (by omega), val_take_succ a, hx]
    have h2 := val_take_succ o i
    rw [hc] at h2
    have h3 := Nat.div_add_mod (x * 2 ^ s) 4294967296
    generalize hq : x * 2 ^ s / 4294967296 = q at *
    generalize hr : x * 2 ^ s % 4294967296 = r at *
    rw [Nat.pow_succ, Nat.add_mul, ← hv, h2, Nat.mul_add, Nat.mul_assoc (B ^ i) x, ← h3, Nat.mul_add, ← B_val, Nat.mul_assoc]
    omega
theorem or_word {a b : Nat} (hb : b < 4294967296) : (((a : Int) * 4294967296).toNat ||| ((b : Int)).toNat) = a * 4294967296 + b := by
  have h := or_halves a b hb
  have e : ((a : Int) * 4294967296).toNat = a * 4294967296 := by omega
  rw [e, Int.toNat_natCast, h]
theorem or_two {a b : Nat} (hb : b < 4294967296) : (((b : Int)).toNat ||| ((a : Int) * 4294967296).toNat) = b + B * a := by
  have h := or_halves a b hb
  have e : ((a : Int) * 4294967296).toNat = a * 4294967296 := by omega
  rw [e, Int.toNat_natCast, Nat.or_comm, h, B_val]
  omega
theorem log2_div {x k : Nat} (h : 1 ≤ x / 2 ^ k) : x.log2 = k + (x / 2 ^ k).log2 := by
  have hp : 0 < 2 ^ k := Nat.pow_pos (by decide)
  have hx : x ≠ 0 := fun e => by subst e; simp at h
  generalize hz : x / 2 ^ k = z at *
  have hz0 : z ≠ 0 := by omega
  have a1 : 2 ^ z.log2 ≤ z := (Nat.le_log2 hz0).1 (Nat.le_refl _)
  have a2 : z < 2 ^ (z.log2 + 1) := (Nat.log2_lt hz0).1 (Nat.lt_succ_self _)
  have b1 : z * 2 ^ k ≤ x := by rw [← hz]; exact Nat.div_mul_le_self _ _
  have b2 : x < (z + 1) * 2 ^ k := by rw [← hz, Nat.mul_comm]; exact Nat.lt_mul_div_succ x hp
  refine Nat.le_antisymm ?_ ?_
  · refine Nat.le_of_lt_succ ((Nat.log2_lt hx).2 ?_)
    refine Nat.lt_of_lt_of_le b2 ?_
    rw [show (k + z.log2).succ = (z.log2 + 1) + k by omega, Nat.pow_add]
    exact Nat.mul_le_mul_right _ a2
  · rw [Nat.le_log2 hx, Nat.add_comm, Nat.pow_add]
    exact Nat.le_trans (Nat.mul_le_mul_right _ a1) b1
end Go.Vw

/-
  A slice held against nil: what is known of the outcome. Conditions: the table of types is the program's.
-/
namespace Go.Vw
open Go.RowKit

theorem run_isNil {P : Program} {w : World} {t e t2 : TypeId} {td : TyD} (ht : TyOk P t td) (hd : td.desc = .slice e) {ev : Operand → Value} {x y : Operand} {dst : Option Tmp} {ty : TypeId} {pos : String} {after : Array Edge} {g : Option (Nat × Bool)} {p : Option Addr} {n c : Nat} (hx : ev x = .slice p n c) (hy : ev y = .slice none 0 0) (neg : Bool) :
    (execOp ev ⟨dst, .binOp (if neg then .neq else .eql) t x y t2, ty, pos, after, g⟩).run P w = .ok (.value (.bool (neg != p.isNone))) w := by
  have hu := ht.und
  rw [hd] at hu
  have h1 : (Op.equal t (.slice p n c) (.slice none 0 0)).run P w = .ok p.isNone w := by
    have : ∀ d, (Op.equalIn (d + 1) t (.slice p n c) (.slice none 0 0)).run P w = .ok p.isNone w := fun d => by
      cases p <;> simp [Op.equalIn, run_underlying hu]
    exact this 9999
  cases neg <;> simp [execOp, hx, hy, eqGuard, binOp, h1]

section
variable {X : Ctx} {all : Array Oper} {rest : List Oper} {Q : Exit → St → Prop} {s : St} {o : Oper} {d : Tmp}
theorem awpL_isNil {t t2 e : TypeId} {td : TyD} {x y : Operand} {sz : Nat} {α : Type} {en : α → List D} {z : α} {l : List α} (hop : o.op = .binOp .eql t x y t2) (hdst : o.dst = some d) (hx : s.opd x = .d (.sl sz en z l)) (hy : s.opd y = .d .nils) (hg : gd all s o = some true) (hd : dstOk X.N (some d) = true) (ht : X.T t = some td) (hds : td.desc = .slice e) (k : ∀ b : Bool, (l ≠ [] → b = false) → awpL X all rest Q (s.put (some d) (.d (.bool b)))) : awpL X all (o :: rest) Q s := by
  obtain ⟨dst, op, ty, pos, after, g⟩ := o
  cases hop; cases hdst
  intro io F a w hs
  have hvx := hs.opd x
  have hvy := hs.opd y
  rw [hx] at hvx; rw [hy] at hvy
  simp only [VR, DR] at hvx hvy
  have key : ∀ (p : Option Addr) n c, a.eval x = .slice p n c → (l ≠ [] → p.isNone = false) → wpList X.P all (lift X Q) (⟨some d, .binOp .eql t x y t2, ty, pos, after, g⟩ :: rest) a w := fun p n c e hl => by
    have hr := run_isNil (P := X.P) (w := w) (dst := some d) (ty := ty) (pos := pos) (after := after) (g := g) (t2 := t2) (X.ok _ _ ht) hds e hvy false
    refine wpList_cons (opWp_value (gd_sound (fun t _ => hs.tm t) hg) (v := .bool p.isNone) (by simpa using hr) ?_)
    exact k p.isNone hl io F _ w (hs.put (dstOk_sound hd) (by simp only [VR, DR]))
  rcases hvx with ⟨⟨p, c0, e⟩, rfl⟩ | ⟨b, off, cap, arr, ty', fz, e, _⟩
  · exact key p 0 c0 e fun h => absurd rfl h
  · exact key _ _ _ e fun _ => rfl
theorem awpL_byte {u : UInt8} (d : Tmp) (h : s.tmps d = .d (.int .u8 u.toNat)) (k : ∀ n : Nat, n < 256 → n = u.toNat → awpL X all rest Q (s.put (some d) (.d (.int .u8 n)))) : awpL X all rest Q s := by
  have := k u.toNat u.toNat_lt rfl
  rwa [put_self h] at this
end
end Go.Vw
