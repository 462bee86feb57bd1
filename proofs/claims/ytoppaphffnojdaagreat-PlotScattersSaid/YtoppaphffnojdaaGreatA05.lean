/-
  Contracts of functions of the program, and the layer that they are walked with: R04 Rats R05 C03 N02 NatsC VS N03 NatsD N04 NatsE NatsF N05 NatsG N06 N07. Conditions: as each says.
-/
import Derived.Test.YtoppaphffnojdaaGreatA04
set_option linter.unnecessarySimpa false
set_option linter.unusedVariables false
set_option linter.unusedSimpArgs false
set_option maxHeartbeats 8000000
namespace Go.Proofs.YtoppaphffnojdaaGreat
open Go.Vw
attribute [local irreducible] awp awpL awpR

theorem ref02_Valid (neg : Bool) (mag : List Nat) (hl : mag.length < 10000000000000) : Ret Tryz.prog 121 [intC neg mag] (· = .bool (validI neg mag)) := by
  have hv := ref01_Valid mag hl
  unfold validI
  generalize valid mag = v at *
  cases v <;> cases neg
  · refine ret_of_awp tab Tryz.func121 rfl rfl (Nat.le_of_ble_eq_true rfl) (fun w0 F0 => ?_)
    repeat' (first | refine wG ?_ | refine wC hv ?_ | refine wS ?_ ?_ <;> intro _ | refine finG ?_)
    rfl
  · refine ret_of_awp tab Tryz.func121 rfl rfl (Nat.le_of_ble_eq_true rfl) (fun w0 F0 => ?_)
    repeat' (first | refine wG ?_ | refine wC hv ?_ | refine wS ?_ ?_ <;> intro _ | refine finG ?_)
    rfl
  · refine ret_of_awp tab Tryz.func121 rfl rfl (Nat.le_of_ble_eq_true rfl) (fun w0 F0 => ?_)
    repeat' (first | refine wG ?_ | refine wC hv ?_ | refine wS ?_ ?_ <;> intro _ | refine finG ?_)
    rfl
  · refine ret_of_awp tab Tryz.func121 rfl rfl (Nat.le_of_ble_eq_true rfl) (fun w0 F0 => ?_)
    repeat' (first | refine wG ?_ | refine wC hv ?_ | refine wS ?_ ?_ <;> intro _ | refine finG ?_)
    simp

theorem ref02_Take (neg : Bool) (mag : List Nat) (wm : WF mag) (hl : mag.length < 1000000000000) : Ret Tryz.prog 78 [intC neg mag] (· = zD (iv' neg mag)) := by
  have hv := ref02_Valid neg mag (by omega)
  have ht := ref01_Take mag (by omega)
  cases h : validI neg mag with
  | false =>
    rw [h] at hv
    rw [show iv' neg mag = 0 from by simp [iv', h]]
    refine ret_of_awp tab Tryz.func78 rfl rfl (Nat.le_of_ble_eq_true rfl) (fun w0 F0 => ?_)
    rw [zD_zero]
    repeat' (first | refine wG ?_ | refine wC hv ?_ | refine rg 3 5 ?_ | refine wS ?_ ?_ <;> intro _ | (show retPost _ _ _ _ _; first | refine finF true rfl rfl sc ?_ | refine finF false rfl rfl sc ?_ | refine finC false rfl rfl sc sc ?_ | refine finN rfl rfl sc ?_ | refine finL true rfl rfl sc rfl (LeR.cons rfl leL LeR.nil) ?_ | refine finA true rfl rfl sc ?_ | refine finA false rfl rfl sc ?_ | refine finE true rfl rfl sc ?_ | refine finE false rfl rfl sc ?_))
    exact leL
  | true =>
    rw [h] at hv
    rw [← intC_valid wm h]
    rw [show takeL mag = mag from by
      unfold validI at h; rw [Bool.and_eq_true] at h; simp [takeL, h.1]] at ht
    refine ret_of_awp tab Tryz.func78 rfl rfl (Nat.le_of_ble_eq_true rfl) (fun w0 F0 => ?_)
    repeat' (first | refine wG ?_ | refine wC hv ?_ | refine wC ht ?_ | refine rg 3 5 ?_ | refine wS ?_ ?_ <;> intro _ | refine finG ?_)
    rfl
theorem ref02_signed (neg : Bool) (n : Nat) (hl : (limbs n).length < 1000000000000) : Ret Tryz.prog 86 [.bool neg, u32s (limbs n)] (· = zD (if neg then -(n : Int) else n)) := by
  rw [← signed_z]
  cases neg with
  | false => 
    refine ret_of_awp tab Tryz.func86 rfl rfl (Nat.le_of_ble_eq_true rfl) (fun w0 F0 => ?_)
    repeat' (first | refine wG ?_ | refine wS ?_ ?_ <;> intro _ | refine finG ?_)
    rfl
  | true =>
    refine ret_of_awp tab Tryz.func86 rfl rfl (Nat.le_of_ble_eq_true rfl) (fun w0 F0 => ?_)
    repeat' (first | refine wG ?_ | refine wS ?_ ?_ <;> intro _ | refine finG ?_)
    simp; rfl

theorem ref02_TakeZ (z : Int) (hl : (limbs z.natAbs).length < 1000000000000) : Ret Tryz.prog 78 [zD z] (· = zD z) := by
  have := ref02_Take (decide (z < 0)) (limbs z.natAbs) (wf_limbs _) hl
  rw [iv'_z] at this
  exact this

theorem ref02_Sign (neg : Bool) (mag : List Nat) (h : IntOk neg mag 1000000000000) : Ret Tryz.prog 89 [intC neg mag] (· = .int .i64 (iv' neg mag).sign) := by
  have ht := ref02_Take neg mag h.wf h.len
  generalize iv' neg mag = z at *
  obtain ⟨s, n, e1, e2, e3, e4⟩ := zD_cases z
  rw [e1] at ht
  cases s with
  | true =>
    have h0 := e4 rfl
    have : z.sign = -1 := Int.sign_eq_neg_one_of_neg (by simp at e2; omega)
    rw [this]
    refine ret_of_awp tab Tryz.func89 rfl rfl (Nat.le_of_ble_eq_true rfl) (fun w0 F0 => ?_)
    repeat' (first | refine wG ?_ | refine wC ht ?_ | refine wS ?_ ?_ <;> intro _ | refine finG ?_)
    rfl
  | false =>
    simp at e2
    refine ret_of_awp tab Tryz.func89 rfl rfl (Nat.le_of_ble_eq_true rfl) (fun w0 F0 => ?_)
    repeat' (first | refine wG ?_ | refine wC ht ?_ | refine wS ?_ ?_ <;> intro _ | refine finG ?_)
    · rename_i hp
      have : z.sign = 1 := Int.sign_eq_one_of_pos (by
        have : n ≠ 0 := fun e => by subst e; rw [limbs_zero] at hp; simp at hp
        omega)
      rw [this]
    · rename_i hp
      have : n = 0 := limbs_eq_nil.1 (List.length_eq_zero_iff.1 (by omega))
      subst this
      rw [e2]; rfl

theorem ref02_Neg (neg : Bool) (mag : List Nat) (h : IntOk neg mag 1000000000000) : Ret Tryz.prog 92 [intC neg mag] (· = zD (-iv' neg mag)) := by
  have ht := ref02_Take neg mag h.wf h.len
  have hl := h.val
  generalize iv' neg mag = z at *
  obtain ⟨s, n, e1, e2, e3, e4⟩ := zD_cases z
  rw [e1] at ht
  rw [e3] at hl
  cases s with
  | true =>
    have : -z = n := by simp at e2; omega
    rw [this]
    refine ret_of_awp tab Tryz.func92 rfl rfl (Nat.le_of_ble_eq_true rfl) (fun w0 F0 => ?_)
    repeat' (first | refine wG ?_ | refine wC ht ?_ | refine cl 86 tt rfl rfl rfl (hr := ref02_signed false _ (by omega)) (k := ?_) | refine wS ?_ ?_ <;> intro _ | refine finG ?_)
    rfl
  | false =>
    have : -z = -(n : Int) := by simp at e2; omega
    rw [this]
    refine ret_of_awp tab Tryz.func92 rfl rfl (Nat.le_of_ble_eq_true rfl) (fun w0 F0 => ?_)
    repeat' (first | refine wG ?_ | refine wC ht ?_ | refine cl 86 tt rfl rfl rfl (hr := ref02_signed true _ (by omega)) (k := ?_) | refine wS ?_ ?_ <;> intro _ | refine finG ?_)
    rfl

theorem ref02_Add (n1 n2 : Bool) (m1 m2 : List Nat) (h1 : IntOk n1 m1 100000000000) (h2 : IntOk n2 m2 100000000000) : Ret Tryz.prog 95 [intC n1 m1, intC n2 m2] (· = zD (iv' n1 m1 + iv' n2 m2)) := by
  have ta := ref02_Take n1 m1 h1.wf (Nat.lt_trans h1.len (by decide))
  have tb := ref02_Take n2 m2 h2.wf (Nat.lt_trans h2.len (by decide))
  have la := h1.val
  have lb := h2.val
  generalize iv' n1 m1 = x at *
  generalize iv' n2 m2 = y at *
  obtain ⟨s, a, e1, e2, e3, e4⟩ := zD_cases x
  obtain ⟨t, b, f1, f2, f3, f4⟩ := zD_cases y
  rw [e1] at ta
  rw [f1] at tb
  rw [e3] at la
  rw [f3] at lb
  have ladd := ln_add a b
  have ls := len_bound (Nat.sub_le a b) la
  have ls' := len_bound (Nat.sub_le b a) lb
  simp only [ln] at ladd
  cases s <;> cases t
  · refine ret_of_awp tab Tryz.func95 rfl rfl (Nat.le_of_ble_eq_true rfl) (fun w0 F0 => ?_)
    repeat' (first | refine wG ?_ | refine wC ta ?_ | refine wC tb ?_ | refine cl 125 tt rfl rfl rfl (hr := ref01_SubN _ _ (by omega) (by omega)) (k := ?_) | refine clR 125 tt rfl rfl rfl (hr := ref01_SubN _ _ (by omega) (by omega)) (k := ?_) | refine cl 86 tt rfl rfl rfl (hr := ref02_signed _ _ (by omega)) (k := ?_) | refine clR 86 tt rfl rfl rfl (hr := ref02_signed _ _ (by omega)) (k := ?_) | refine cl 87 tt rfl rfl rfl (hr := ref01_AddN _ _ (by omega) (by omega)) (k := ?_) | refine clR 87 tt rfl rfl rfl (hr := ref01_AddN _ _ (by omega) (by omega)) (k := ?_) | refine cl 86 tt rfl rfl rfl (hr := ref02_signed false _ (by omega)) (k := ?_) | refine clR 86 tt rfl rfl rfl (hr := ref02_signed false _ (by omega)) (k := ?_) | refine rg 1 3 ?_ | refine rg 3 7 ?_ | refine wS ?_ ?_ <;> intro _ | refine finG ?_)
    show _ = zD _
    rw [e2, f2, show ((if false = true then -(a : Int) else a) + (if false = true then -(b : Int) else b) : Int) = (if false = true then -((a + b : Nat) : Int) else ((a + b : Nat) : Int)) by simp; try omega]; rfl
  · refine ret_of_awp tab Tryz.func95 rfl rfl (Nat.le_of_ble_eq_true rfl) (fun w0 F0 => ?_)
    repeat' (first | refine wG ?_ | refine wC ta ?_ | refine wC tb ?_ | refine cl 125 tt rfl rfl rfl (hr := ref01_SubN _ _ (by omega) (by omega)) (k := ?_) | refine clR 125 tt rfl rfl rfl (hr := ref01_SubN _ _ (by omega) (by omega)) (k := ?_) | refine cl 86 tt rfl rfl rfl (hr := ref02_signed _ _ (by omega)) (k := ?_) | refine clR 86 tt rfl rfl rfl (hr := ref02_signed _ _ (by omega)) (k := ?_) | refine rg 1 3 ?_ | refine rg 3 7 ?_ | refine wS ?_ ?_ <;> intro _ | refine finG ?_)
    · refine congrArg zD ?_
      rw [e2, f2]; simp only [Bool.false_eq_true, if_true, if_false]; omega
    · refine congrArg zD ?_
      rw [e2, f2]; simp only [Bool.false_eq_true, if_true, if_false]; omega
  · refine ret_of_awp tab Tryz.func95 rfl rfl (Nat.le_of_ble_eq_true rfl) (fun w0 F0 => ?_)
    repeat' (first | refine wG ?_ | refine wC ta ?_ | refine wC tb ?_ | refine cl 125 tt rfl rfl rfl (hr := ref01_SubN _ _ (by omega) (by omega)) (k := ?_) | refine clR 125 tt rfl rfl rfl (hr := ref01_SubN _ _ (by omega) (by omega)) (k := ?_) | refine cl 86 tt rfl rfl rfl (hr := ref02_signed _ _ (by omega)) (k := ?_) | refine clR 86 tt rfl rfl rfl (hr := ref02_signed _ _ (by omega)) (k := ?_) | refine rg 1 3 ?_ | refine rg 3 7 ?_ | refine wS ?_ ?_ <;> intro _ | refine finG ?_)
    · refine congrArg zD ?_
      rw [e2, f2]; simp only [Bool.false_eq_true, if_true, if_false]; omega
    · refine congrArg zD ?_
      rw [e2, f2]; simp only [Bool.false_eq_true, if_true, if_false]; omega
  · refine ret_of_awp tab Tryz.func95 rfl rfl (Nat.le_of_ble_eq_true rfl) (fun w0 F0 => ?_)
    repeat' (first | refine wG ?_ | refine wC ta ?_ | refine wC tb ?_ | refine cl 125 tt rfl rfl rfl (hr := ref01_SubN _ _ (by omega) (by omega)) (k := ?_) | refine clR 125 tt rfl rfl rfl (hr := ref01_SubN _ _ (by omega) (by omega)) (k := ?_) | refine cl 86 tt rfl rfl rfl (hr := ref02_signed _ _ (by omega)) (k := ?_) | refine clR 86 tt rfl rfl rfl (hr := ref02_signed _ _ (by omega)) (k := ?_) | refine cl 87 tt rfl rfl rfl (hr := ref01_AddN _ _ (by omega) (by omega)) (k := ?_) | refine clR 87 tt rfl rfl rfl (hr := ref01_AddN _ _ (by omega) (by omega)) (k := ?_) | refine cl 86 tt rfl rfl rfl (hr := ref02_signed true _ (by omega)) (k := ?_) | refine clR 86 tt rfl rfl rfl (hr := ref02_signed true _ (by omega)) (k := ?_) | refine rg 1 3 ?_ | refine rg 3 7 ?_ | refine wS ?_ ?_ <;> intro _ | refine finG ?_)
    show _ = zD _
    rw [e2, f2, show ((if true = true then -(a : Int) else a) + (if true = true then -(b : Int) else b) : Int) = (if true = true then -((a + b : Nat) : Int) else ((a + b : Nat) : Int)) by simp; try omega]; rfl

theorem ref02_Mul (n1 n2 : Bool) (m1 m2 : List Nat) (h1 : IntOk n1 m1 10000000000) (h2 : IntOk n2 m2 10000000000) : Ret Tryz.prog 84 [intC n1 m1, intC n2 m2] (· = zD (iv' n1 m1 * iv' n2 m2)) := by
  have ta := ref02_Take n1 m1 h1.wf (Nat.lt_trans h1.len (by decide))
  have tb := ref02_Take n2 m2 h2.wf (Nat.lt_trans h2.len (by decide))
  have la := h1.val
  have lb := h2.val
  generalize iv' n1 m1 = x at *
  generalize iv' n2 m2 = y at *
  obtain ⟨s, a, e1, e2, e3, e4⟩ := zD_cases x
  obtain ⟨t, b, f1, f2, f3, f4⟩ := zD_cases y
  rw [e1] at ta
  rw [f1] at tb
  rw [e3] at la
  rw [f3] at lb
  have lm := ln_mul a b
  simp only [ln] at lm
  have hm := ref01_MulN a b la lb
  have hs := fun s => ref02_signed s (a * b) (by omega)
  rw [e2, f2]
  cases s <;> cases t
  · refine ret_of_awp tab Tryz.func84 rfl rfl (Nat.le_of_ble_eq_true rfl) (fun w0 F0 => ?_)
    repeat' (first | refine wG ?_ | refine wC ta ?_ | refine wC tb ?_ | refine wC hm ?_ | refine wC (hs false) ?_ | refine rg 1 3 ?_ | refine rg 2 10 ?_ | refine wS ?_ ?_ <;> intro _ | refine finG ?_)
    refine congrArg zD ?_
    simp [Int.neg_mul, Int.mul_neg]
  · refine ret_of_awp tab Tryz.func84 rfl rfl (Nat.le_of_ble_eq_true rfl) (fun w0 F0 => ?_)
    repeat' (first | refine wG ?_ | refine wC ta ?_ | refine wC tb ?_ | refine wC hm ?_ | refine wC (hs true) ?_ | refine rg 1 3 ?_ | refine rg 2 10 ?_ | refine wS ?_ ?_ <;> intro _ | refine finG ?_)
    refine congrArg zD ?_
    simp [Int.neg_mul, Int.mul_neg]
  · refine ret_of_awp tab Tryz.func84 rfl rfl (Nat.le_of_ble_eq_true rfl) (fun w0 F0 => ?_)
    repeat' (first | refine wG ?_ | refine wC ta ?_ | refine wC tb ?_ | refine wC hm ?_ | refine wC (hs true) ?_ | refine rg 1 3 ?_ | refine rg 2 10 ?_ | refine wS ?_ ?_ <;> intro _ | refine finG ?_)
    refine congrArg zD ?_
    simp [Int.neg_mul, Int.mul_neg]
  · refine ret_of_awp tab Tryz.func84 rfl rfl (Nat.le_of_ble_eq_true rfl) (fun w0 F0 => ?_)
    repeat' (first | refine wG ?_ | refine wC ta ?_ | refine wC tb ?_ | refine wC hm ?_ | refine wC (hs false) ?_ | refine rg 1 3 ?_ | refine rg 2 10 ?_ | refine wS ?_ ?_ <;> intro _ | refine finG ?_)
    refine congrArg zD ?_
    simp [Int.neg_mul, Int.mul_neg]

theorem ref02_Gcd (n1 n2 : Bool) (m1 m2 : List Nat) (h1 : IntOk n1 m1 100000000) (h2 : IntOk n2 m2 100000000) : Ret Tryz.prog 93 [intC n1 m1, intC n2 m2] (· = u32s (limbs (Int.gcd (iv' n1 m1) (iv' n2 m2)))) := by
  have ta := ref02_Take n1 m1 h1.wf (Nat.lt_trans h1.len (by decide))
  have tb := ref02_Take n2 m2 h2.wf (Nat.lt_trans h2.len (by decide))
  have la := h1.val
  have lb := h2.val
  generalize iv' n1 m1 = x at *
  generalize iv' n2 m2 = y at *
  obtain ⟨s, a, e1, e2, e3, e4⟩ := zD_cases x
  obtain ⟨t, b, f1, f2, f3, f4⟩ := zD_cases y
  rw [e1] at ta
  rw [f1] at tb
  unfold Int.gcd
  rw [e3] at la ⊢
  rw [f3] at lb ⊢
  refine ret_of_awp tab Tryz.func93 rfl rfl (Nat.le_of_ble_eq_true rfl) (fun w0 F0 => ?_)
  repeat' (first | refine wG ?_ | refine wC ta ?_ | refine wC tb ?_ | refine cl 131 tt rfl rfl rfl (hr := ref01_GcdN _ _ (by omega) (by omega)) (k := ?_) | refine clR 131 tt rfl rfl rfl (hr := ref01_GcdN _ _ (by omega) (by omega)) (k := ?_) | refine rg 1 6 ?_ | refine wS ?_ ?_ <;> intro _ | refine finG ?_)
  rfl

theorem ref01_FromUintI (i : Int) (v : Nat) (e : i = v) (h : v < 18446744073709551616) : Ret Tryz.prog 88 [.int .u64 i] (· = u32s (limbs v)) := by
  subst e; exact ref01_FromUint v h
theorem u64_len {v : Nat} (h : v < 18446744073709551616) : (limbs v).length ≤ 2 := length_limbs_le (by simpa [B_val] using h)
theorem ref02_FromInt (v : Int) (h1 : -9223372036854775808 ≤ v) (h2 : v < 9223372036854775808) : Ret Tryz.prog 44 [.int .i64 v] (· = zD v) := by
  by_cases h : v < 0
  · obtain ⟨n, hn⟩ : ∃ n : Nat, v = -((n + 1 : Nat) : Int) := ⟨(-(v + 1)).toNat, by omega⟩
    have l1 := u64_len (v := n) (by omega)
    have l2 := u64_len (v := n + 1) (by omega)
    have ha := ref01_AddN n 1 (by omega) (by have := ln_one; simp only [ln] at this; omega)
    rw [show limbs 1 = [1] from limbs_small (by decide) (by decide)] at ha
    refine ret_of_awp tab Tryz.func44 rfl rfl (Nat.le_of_ble_eq_true rfl) (fun w0 F0 => ?_)
    repeat' (first | refine wG ?_ | refine cl 88 tt rfl rfl rfl (hr := ref01_FromUintI _ n (by omega) (by omega)) (k := ?_) | refine wC ha ?_ | refine cl 86 tt rfl rfl rfl (hr := ref02_signed true _ (by omega)) (k := ?_) | refine wS ?_ ?_ <;> intro _ | refine finG ?_)
    refine congrArg zD ?_
    simp only [if_true]; omega
  · obtain ⟨n, hn⟩ : ∃ n : Nat, v = n := ⟨v.toNat, by omega⟩
    have l1 := u64_len (v := n) (by omega)
    refine ret_of_awp tab Tryz.func44 rfl rfl (Nat.le_of_ble_eq_true rfl) (fun w0 F0 => ?_)
    repeat' (first | refine wG ?_ | refine cl 88 tt rfl rfl rfl (hr := ref01_FromUintI _ n (by omega) (by omega)) (k := ?_) | refine cl 86 tt rfl rfl rfl (hr := ref02_signed false _ (by omega)) (k := ?_) | refine wS ?_ ?_ <;> intro _ | refine finG ?_)
    refine congrArg zD ?_
    simp only [Bool.false_eq_true, if_false]; omega

theorem euc {x y q r : Int} (h : y * q + r = x) (h0 : 0 ≤ r) (h1 : r < y.natAbs) : x / y = q ∧ x % y = r := by
  have hy : y ≠ 0 := by omega
  subst h
  have e1 : r % y = r := by
    rcases Int.lt_or_gt_of_ne hy with h | h
    · rw [← Int.emod_neg]; exact Int.emod_eq_of_lt h0 (by omega)
    · exact Int.emod_eq_of_lt h0 (by omega)
  have e2 : r / y = 0 := by
    have := Int.mul_ediv_add_emod r y
    rw [e1] at this
    have : y * (r / y) = 0 := by omega
    rcases Int.mul_eq_zero.1 this with h | h
    · exact absurd h hy
    · exact h
  rw [Int.add_comm, Int.add_mul_ediv_left _ _ hy, e2, Int.add_mul_emod_self_left, e1]
  exact ⟨by omega, rfl⟩

theorem divz {x y q r : Int} (h : y * q + r = x) (h0 : 0 ≤ r) (h1 : r < y.natAbs) : D.tup [zD q, zD r, D.bool true] = D.tup [zD (x / y), zD (x % y), D.bool true] := by
  obtain ⟨e1, e2⟩ := euc h h0 h1
  rw [e1, e2]
theorem ref02_Div (n1 n2 : Bool) (m1 m2 : List Nat) (h1 : IntOk n1 m1 100000000) (h2 : IntOk n2 m2 100000000) (h0 : iv' n2 m2 ≠ 0) : Ret Tryz.prog 81 [intC n1 m1, intC n2 m2] (· = .tup [zD (iv' n1 m1 / iv' n2 m2), zD (iv' n1 m1 % iv' n2 m2), .bool true]) := by
  have ta := ref02_Take n1 m1 h1.wf (Nat.lt_trans h1.len (by decide))
  have tb := ref02_Take n2 m2 h2.wf (Nat.lt_trans h2.len (by decide))
  have la := h1.val
  have lb := h2.val
  generalize iv' n1 m1 = x at *
  generalize iv' n2 m2 = y at *
  obtain ⟨s, a, e1, e2, e3, e4⟩ := zD_cases x
  obtain ⟨t, b, f1, f2, f3, f4⟩ := zD_cases y
  rw [e1] at ta
  rw [f1] at tb
  rw [e3] at la
  rw [f3] at lb
  have hb : b ≠ 0 := by omega
  have hd := ref01_DivN a b (by omega) (by omega) hb
  have l1 := len_bound (Nat.div_le_self a b) la
  have hr := Nat.mod_lt a (Nat.pos_of_ne_zero hb)
  have hx := Nat.div_add_mod a b
  have l2 := len_bound (Nat.le_of_lt hr) lb
  have l3 := len_bound (Nat.sub_le b (a % b)) lb
  have l4 := ln_add (a / b) 1
  have l5 := ln_one
  simp only [ln] at l4 l5
  have ha := ref01_AddN (a / b) 1 (by omega) (by omega)
  rw [show limbs 1 = [1] from limbs_small (by decide) (by decide)] at ha
  have hs := ref01_SubN b (a % b) (by omega) (by omega)
  have hz : (limbs (a % b)).length = 0 ↔ a % b = 0 := ⟨fun h => limbs_eq_nil.1 (List.length_eq_zero_iff.1 h), fun h => by rw [h, limbs_zero]; rfl⟩
  generalize a / b = q at *
  generalize a % b = r at *
  have hx' : (b : Int) * q + r = a := by rw [← hx]; simp
  cases s <;> cases t
  · simp only [Bool.false_eq_true, if_true, if_false] at e2 f2
    refine ret_of_awp tab Tryz.func81 rfl rfl (Nat.le_of_ble_eq_true rfl) (fun w0 F0 => ?_)
    repeat' (first | refine wG ?_ | refine wC ta ?_ | refine wC tb ?_ | refine wC hd ?_ | refine wC ha ?_ | refine wC hs ?_ | refine cl 86 tt rfl rfl rfl (hr := ref02_signed _ _ (by omega)) (k := ?_) | refine clR 86 tt rfl rfl rfl (hr := ref02_signed _ _ (by omega)) (k := ?_) | refine rg 1 3 ?_ | refine wS ?_ ?_ <;> intro _ | refine finG ?_)
    · refine divz (q := (q:Int)) (r := (r:Int)) ?_ ?_ ?_
      · rw [e2, f2]; (try simp only [Int.neg_mul, Int.mul_neg, Int.neg_neg, Int.mul_add, Int.mul_one, Int.natCast_add, Int.natCast_one]); omega
      · omega
      · omega
  · simp only [Bool.false_eq_true, if_true, if_false] at e2 f2
    refine ret_of_awp tab Tryz.func81 rfl rfl (Nat.le_of_ble_eq_true rfl) (fun w0 F0 => ?_)
    repeat' (first | refine wG ?_ | refine wC ta ?_ | refine wC tb ?_ | refine wC hd ?_ | refine wC ha ?_ | refine wC hs ?_ | refine cl 86 tt rfl rfl rfl (hr := ref02_signed _ _ (by omega)) (k := ?_) | refine clR 86 tt rfl rfl rfl (hr := ref02_signed _ _ (by omega)) (k := ?_) | refine rg 1 3 ?_ | refine wS ?_ ?_ <;> intro _ | refine finG ?_)
    · refine divz (q := -(q:Int)) (r := (r:Int)) ?_ ?_ ?_
      · rw [e2, f2]; (try simp only [Int.neg_mul, Int.mul_neg, Int.neg_neg, Int.mul_add, Int.mul_one, Int.natCast_add, Int.natCast_one]); omega
      · omega
      · omega
  · simp only [Bool.false_eq_true, if_true, if_false] at e2 f2
    refine ret_of_awp tab Tryz.func81 rfl rfl (Nat.le_of_ble_eq_true rfl) (fun w0 F0 => ?_)
    repeat' (first | refine wG ?_ | refine wC ta ?_ | refine wC tb ?_ | refine wC hd ?_ | refine wC ha ?_ | refine wC hs ?_ | refine cl 86 tt rfl rfl rfl (hr := ref02_signed _ _ (by omega)) (k := ?_) | refine clR 86 tt rfl rfl rfl (hr := ref02_signed _ _ (by omega)) (k := ?_) | refine rg 1 3 ?_ | refine wS ?_ ?_ <;> intro _ | refine finG ?_)
    · rename_i hc
      refine divz (q := -((q+1:Nat):Int)) (r := ((b-r:Nat):Int)) ?_ ?_ ?_
      · rw [e2, f2]; (try simp only [Int.neg_mul, Int.mul_neg, Int.neg_neg, Int.mul_add, Int.mul_one, Int.natCast_add, Int.natCast_one]); omega
      · omega
      · omega
    · rename_i hc
      have hc0 : r = 0 := hz.1 (by omega)
      refine divz (q := -(q:Int)) (r := (r:Int)) ?_ ?_ ?_
      · rw [e2, f2]; (try simp only [Int.neg_mul, Int.mul_neg, Int.neg_neg, Int.mul_add, Int.mul_one, Int.natCast_add, Int.natCast_one]); omega
      · omega
      · omega
  · simp only [Bool.false_eq_true, if_true, if_false] at e2 f2
    refine ret_of_awp tab Tryz.func81 rfl rfl (Nat.le_of_ble_eq_true rfl) (fun w0 F0 => ?_)
    repeat' (first | refine wG ?_ | refine wC ta ?_ | refine wC tb ?_ | refine wC hd ?_ | refine wC ha ?_ | refine wC hs ?_ | refine cl 86 tt rfl rfl rfl (hr := ref02_signed _ _ (by omega)) (k := ?_) | refine clR 86 tt rfl rfl rfl (hr := ref02_signed _ _ (by omega)) (k := ?_) | refine rg 1 3 ?_ | refine wS ?_ ?_ <;> intro _ | refine finG ?_)
    · rename_i hc
      refine divz (q := ((q+1:Nat):Int)) (r := ((b-r:Nat):Int)) ?_ ?_ ?_
      · rw [e2, f2]; (try simp only [Int.neg_mul, Int.mul_neg, Int.neg_neg, Int.mul_add, Int.mul_one, Int.natCast_add, Int.natCast_one]); omega
      · omega
      · omega
    · rename_i hc
      have hc0 : r = 0 := hz.1 (by omega)
      refine divz (q := (q:Int)) (r := (r:Int)) ?_ ?_ ?_
      · rw [e2, f2]; (try simp only [Int.neg_mul, Int.mul_neg, Int.neg_neg, Int.mul_add, Int.mul_one, Int.natCast_add, Int.natCast_one]); omega
      · omega
      · omega

end Go.Proofs.YtoppaphffnojdaaGreat

/-
  Rational numbers as the program holds them; rows, tables, strings. Conditions: none.
-/
namespace Go.Vw

abbrev R3 := Bool × List Nat × List Nat
@[reducible] def rC (r : R3) : List D := [.bool r.1, u32s r.2.1, u32s r.2.2]
@[reducible] def rD (r : R3) : D := .agg (rC r)
@[reducible] def r0 : R3 := (false, [], [])
@[reducible] def rsD (l : List R3) : D := .sl 3 rC r0 l
@[reducible] def eR (l : List R3) : List D := [rsD l]
@[reducible] def rssD (l : List (List R3)) : D := .sl 1 eR [] l
@[reducible] def eS (b : List UInt8) : List D := [.str b]
@[reducible] def strsD (l : List (List UInt8)) : D := .sl 1 eS [] l

def zR (z : Int) : R3 := (decide (z < 0), limbs z.natAbs, [])
end Go.Vw

set_option maxHeartbeats 8000000
namespace Go.Proofs.YtoppaphffnojdaaGreat
open Go.Vw
attribute [local irreducible] awp awpL awpR

theorem ref03_FromInt (v : Int) (h1 : -9223372036854775808 ≤ v) (h2 : v < 9223372036854775808) : Ret Tryz.prog 17 [.int .i64 v] (· = rD (zR v)) := by
  refine ret_of_awp tab Tryz.func17 rfl rfl (Nat.le_of_ble_eq_true rfl) (fun w0 F0 => ?_)
  repeat' (first | refine wG ?_ | refine wC (ref02_FromInt v h1 h2) ?_ | refine wS ?_ ?_ <;> intro _ | (show retPost _ _ _ _ _; first | refine finF true rfl rfl sc ?_ | refine finF false rfl rfl sc ?_ | refine finC false rfl rfl sc sc ?_ | refine finN rfl rfl sc ?_ | refine finL true rfl rfl sc rfl (LeR.cons rfl leL LeR.nil) ?_ | refine finA true rfl rfl sc ?_ | refine finA false rfl rfl sc ?_ | refine finE true rfl rfl sc ?_ | refine finE false rfl rfl sc ?_))
  exact leL

end Go.Proofs.YtoppaphffnojdaaGreat

set_option maxHeartbeats 8000000
namespace Go.Proofs.YtoppaphffnojdaaGreat
open Go.Vw
attribute [local irreducible] awp awpL awpR

theorem natural_trimmed (l : List Nat) (hl : l.length < 10000000000000) : Ret Tryz.prog 119 [u32s l] (· = u32s (trimL l)) := by
  refine ret_of_awp tab Tryz.func119 rfl rfl (Nat.le_of_ble_eq_true rfl) (fun w0 F0 => ?_)
  repeat' (first | refine wG ?_ | refine wS ?_ ?_ <;> intro _ | refine finG ?_)
  refine awp_loop1 (fun n : Nat => ([(0, .d (u32s l)), (3, .d (.int .i64 n))], [])) (fun n => n ≤ l.length ∧ trimL (l.take n) = trimL l) (fun n => n) l.length ⟨by omega, by simp⟩ ⟨rfl, rfl, rfl⟩ trivial (fun n hi => ?_)
  obtain ⟨h1, h2⟩ := hi
  have e : 0 < n → (l.take n).getD ((l.take n).length - 1) 0 = l.getD (n - 1) 0 := fun hn => by
    simp [List.getD, List.length_take, Nat.min_eq_left h1, List.getElem?_take, show n - 1 < n by omega, List.getElem?_eq_getElem (show n - 1 < l.length by omega)]
  have hlen : (l.take n).length = n := by simp; omega
  repeat' (first | refine wG ?_ | refine wS ?_ ?_ <;> intro _ | refine finG ?_)
  · rename_i h3 h4
    refine ⟨n - 1, ⟨by omega, ?_⟩, by omega, ⟨rfl, iv (by omega), rfl⟩, trivial⟩
    rw [← h2, ← trimL_last (m := l.take n) (by omega) (by rw [e (by omega), ← show ((n : Int) - 1).toNat = n - 1 by omega]; omega), hlen, List.take_take, Nat.min_eq_left (by omega)]
  · rename_i h3 h4
    rw [← h2, trimL_done (by rw [e (by omega), ← show ((n : Int) - 1).toNat = n - 1 by omega]; omega)]
  · rename_i h3
    have : n = 0 := by omega
    subst this
    rw [← h2]; rfl
theorem natural_FromUint (i : Int) (v : Nat) (e : i = v) (h : v < 18446744073709551616) : Ret Tryz.prog 120 [.int .u64 i] (· = u32s (limbs v)) := by
  subst e
  have ht := natural_trimmed [v % 4294967296, v / 4294967296] (by simp)
  rw [two_limbs v h] at ht
  refine ret_of_awp tab Tryz.func120 rfl rfl (Nat.le_of_ble_eq_true rfl) (fun w0 F0 => ?_)
  repeat' (first | refine wG ?_ | refine wC ht ?_ | refine wS ?_ ?_ <;> intro _ | refine finG ?_)
  rfl
theorem integer_signed (neg : Bool) (n : Nat) (hl : (limbs n).length < 1000000000000) : Ret Tryz.prog 115 [.bool neg, u32s (limbs n)] (· = zD (if neg then -(n : Int) else n)) := by
  rw [← signed_z]
  cases neg with
  | false => 
    refine ret_of_awp tab Tryz.func115 rfl rfl (Nat.le_of_ble_eq_true rfl) (fun w0 F0 => ?_)
    repeat' (first | refine wG ?_ | refine wS ?_ ?_ <;> intro _ | refine finG ?_)
    rfl
  | true =>
    refine ret_of_awp tab Tryz.func115 rfl rfl (Nat.le_of_ble_eq_true rfl) (fun w0 F0 => ?_)
    repeat' (first | refine wG ?_ | refine wS ?_ ?_ <;> intro _ | refine finG ?_)
    simp; rfl
theorem integer_FromInt (v : Int) (h1 : -9223372036854775808 ≤ v) (h2 : v < 9223372036854775808) : Ret Tryz.prog 77 [.int .i64 v] (· = zD v) := by
  by_cases h : v < 0
  · have l1 := u64_len (v := v.natAbs) (by omega)
    refine ret_of_awp tab Tryz.func77 rfl rfl (Nat.le_of_ble_eq_true rfl) (fun w0 F0 => ?_)
    repeat' (first | refine wG ?_ | refine cl 120 tt rfl rfl rfl (hr := natural_FromUint _ v.natAbs (by omega) (by omega)) (k := ?_) | refine cl 115 tt rfl rfl rfl (hr := integer_signed true _ (by omega)) (k := ?_) | refine wS ?_ ?_ <;> intro _ | refine finG ?_)
    refine congrArg zD ?_
    simp only [if_true]; omega
  · have l1 := u64_len (v := v.natAbs) (by omega)
    refine ret_of_awp tab Tryz.func77 rfl rfl (Nat.le_of_ble_eq_true rfl) (fun w0 F0 => ?_)
    repeat' (first | refine wG ?_ | refine cl 120 tt rfl rfl rfl (hr := natural_FromUint _ v.natAbs (by omega) (by omega)) (k := ?_) | refine cl 115 tt rfl rfl rfl (hr := integer_signed false _ (by omega)) (k := ?_) | refine wS ?_ ?_ <;> intro _ | refine finG ?_)
    refine congrArg zD ?_
    simp only [Bool.false_eq_true, if_false]; omega
theorem rational_FromInt (v : Int) (h1 : -9223372036854775808 ≤ v) (h2 : v < 9223372036854775808) : Ret Tryz.prog 37 [.int .i64 v] (· = rD (zR v)) := by
  refine ret_of_awp tab Tryz.func37 rfl rfl (Nat.le_of_ble_eq_true rfl) (fun w0 F0 => ?_)
  repeat' (first | refine wG ?_ | refine wC (integer_FromInt v h1 h2) ?_ | refine wS ?_ ?_ <;> intro _ | (show retPost _ _ _ _ _; first | refine finF true rfl rfl sc ?_ | refine finF false rfl rfl sc ?_ | refine finC false rfl rfl sc sc ?_ | refine finN rfl rfl sc ?_ | refine finL true rfl rfl sc rfl (LeR.cons rfl leL LeR.nil) ?_ | refine finA true rfl rfl sc ?_ | refine finA false rfl rfl sc ?_ | refine finE true rfl rfl sc ?_ | refine finE false rfl rfl sc ?_))
  exact leL
end Go.Proofs.YtoppaphffnojdaaGreat

set_option maxHeartbeats 8000000
namespace Go.Proofs.YtoppaphffnojdaaGreat
open Go.Vw
attribute [local irreducible] awp awpL awpR

theorem natural_Valid (l : List Nat) (hl : l.length < 10000000000000) : Ret Tryz.prog 140 [u32s l] (· = .bool (valid l)) := by
  refine ret_of_awp tab Tryz.func140 rfl rfl (Nat.le_of_ble_eq_true rfl) (fun w0 F0 => ?_)
  repeat' (first | refine wG ?_ | refine wS ?_ ?_ <;> intro _ | refine finG ?_)
  · rename_i h
    have : l = [] := List.length_eq_zero_iff.1 (by omega)
    subst this; rfl
  · rename_i h
    have hn : l ≠ [] := fun e => h (by simp [e])
    have e : ((l.length : Int) - 1).toNat = l.length - 1 := by omega
    rw [e]
    have hv : valid l = (l.getD (l.length - 1) 0 != 0) := by conv => lhs; rw [list_snoc hn, valid_snoc]
    rw [hv]
    congr 1
    rw [Bool.eq_iff_iff]; simp
theorem natural_value (l : List Nat) (hl : l.length < 10000000000000) : Ret Tryz.prog 111 [u32s l] (· = u32s (takeL l)) := by
  have hv := natural_Valid l hl
  unfold takeL
  cases h : valid l with
  | true =>
    rw [h] at hv
    refine ret_of_awp tab Tryz.func111 rfl rfl (Nat.le_of_ble_eq_true rfl) (fun w0 F0 => ?_)
    repeat' (first | refine wG ?_ | refine wC hv ?_ | refine wS ?_ ?_ <;> intro _ | refine finG ?_)
    rfl
  | false =>
    rw [h] at hv
    refine ret_of_awp tab Tryz.func111 rfl rfl (Nat.le_of_ble_eq_true rfl) (fun w0 F0 => ?_)
    repeat' (first | refine wG ?_ | refine wC hv ?_ | refine wS ?_ ?_ <;> intro _ | refine finG ?_)
    rfl
theorem natural_Compare (a b : List Nat) (wa : WF a) (wb : WF b) (hla : a.length < 10000000000) (hlb : b.length < 10000000000) : Ret Tryz.prog 118 [u32s a, u32s b] (· = .int .i64 (cmpN (nv a) (nv b))) := by
  have h1 := natural_value a (by omega)
  have h2 := natural_value b (by omega)
  have la := takeL_le a
  have lb := takeL_le b
  rw [takeL_limbs wa] at h1 la
  rw [takeL_limbs wb] at h2 lb
  generalize nv a = m at *
  generalize nv b = n at *
  have va := val_limbs m
  have vb := val_limbs n
  have ga := @lt_of_length m n
  have gb := @lt_of_length n m
  have wa' := wf_limbs m
  have wb' := wf_limbs n
  refine ret_of_awp tab Tryz.func118 rfl rfl (Nat.le_of_ble_eq_true rfl) (fun w0 F0 => ?_)
  repeat' (first | refine wG ?_ | refine wC h1 ?_ | refine wC h2 ?_ | refine rg 9 8 ?_ | refine rg 11 8 ?_ | refine wS ?_ ?_ <;> intro _ | refine finG ?_)
  · have := ga (by omega)
    simp only [cmpN, this, if_true]
  · have := gb (by omega)
    simp only [cmpN, show ¬ m < n by omega, this, if_true, if_false]
  · clear h1 h2
    generalize limbs m = a' at *
    generalize limbs n = b' at *
    rename_i h
    refine awp_loop1 (fun i : Nat => ([(0, .d (u32s a')), (1, .d (u32s b')), (5, .d (.int .i64 ((i : Int) - 1)))], [])) (fun i => i ≤ a'.length ∧ a'.drop i = b'.drop i) (fun i => i) a'.length ⟨Nat.le_refl _, by simp; omega⟩ ⟨rfl, rfl, rfl, rfl⟩ trivial (fun i hi => ?_)
    obtain ⟨h1, h2⟩ := hi
    repeat' (first | refine wG ?_ | refine rg 9 8 ?_ | refine rg 11 8 ?_ | refine wS ?_ ?_ <;> intro _ | refine finG ?_)
    all_goals first | have e : ((i : Int) - 1).toNat = i - 1 := by omega
    · rename_i h3 h7
      have h6 : i - 1 + 1 = i := by omega
      rw [← h6] at h2
      have := val_lt_of wa' (by omega) (by omega) h2 (by rw [e] at h7; omega)
      simp [cmpN, show m < n by omega]
    · rename_i h3 h8 h7
      have h6 : i - 1 + 1 = i := by omega
      rw [← h6] at h2
      have := val_lt_of wb' (by omega) (by omega) h2.symm (by rw [e] at h7; omega)
      simp [cmpN, show n < m by omega, show ¬ m < n by omega]
    · rename_i h3 h7 h8
      have h6 : i - 1 + 1 = i := by omega
      rw [← h6] at h2
      rw [e] at h7 h8
      have h9 : a'.getD (i - 1) 0 = b'.getD (i - 1) 0 := by omega
      exact ⟨i - 1, ⟨by omega, drop_eq_of (by omega) (by omega) h2 h9⟩, by omega, ⟨rfl, rfl, iv (by omega), rfl⟩, trivial⟩
    · have : i = 0 := by omega
      subst this
      have : a' = b' := by simpa using h2
      simp [cmpN, show ¬ n < m by rw [← va, ← vb, this]; omega, show ¬ m < n by rw [← va, ← vb, this]; omega]

theorem natural_Add (a b : List Nat) (wa : WF a) (wb : WF b) (hla : a.length < 1000000000000) (hlb : b.length < 1000000000000) : Ret Tryz.prog 109 [u32s a, u32s b] (· = u32s (limbs (nv a + nv b))) := by
  have h1 := natural_value a (by omega)
  have h2 := natural_value b (by omega)
  have la := takeL_le a
  have lb := takeL_le b
  have wa' := wf_takeL wa
  have wb' := wf_takeL wb
  have va : val (takeL a) = nv a := rfl
  have vb : val (takeL b) = nv b := rfl
  refine ret_of_awp tab Tryz.func109 rfl rfl (Nat.le_of_ble_eq_true rfl) (fun w0 F0 => ?_)
  repeat' (first | refine stopA 2 tt ?_ | refine wG ?_ | refine wC h1 ?_ | refine wC h2 ?_ | refine wS ?_ ?_ <;> intro _ | refine finG ?_)
  refine stopOut ?_
  clear h1 h2
  generalize takeL a = a0 at *
  generalize takeL b = b0 at *
  refine awp_meet2 (fun (p q : List Nat) => ([(0, .d (u32s p)), (1, .d (u32s q))], [])) (fun p q => WF p ∧ WF q ∧ q.length ≤ p.length ∧ p.length < 1000000000000 ∧ val p + val q = nv a + nv b) (fun p q h => ?_) ?_
  · obtain ⟨wp, wq, hqp, hpl, hval⟩ := h
    repeat' (first | refine wG ?_ | refine wS ?_ ?_ <;> intro _ | refine finG ?_)
    refine awp_loop2 (fun (i : Nat) (o : List Nat × Nat) => ([(0, .d (u32s p)), (1, .d (u32s q)), (5, .own 24 0 (p.length + 1) 56 1), (6, .d (.int .u32 o.2)), (25, .d (u32s p)), (26, .d (.int .i64 p.length)), (27, .d (.int .i64 i))], [(24, .data 56 1 (eN .u32) 0 o.1)])) (fun i o => i ≤ p.length ∧ o.1.length = p.length + 1 ∧ WF o.1 ∧ o.2 ≤ 1 ∧ val (o.1.take i) + o.2 * B ^ i = val (p.take i) + val (q.take i)) (fun i o => p.length - i) 0 (List.replicate (p.length + 1) 0, 0) ⟨by omega, by simp, wf_replicate _, by omega, by simp [val]⟩ ⟨rfl, rfl, rfl, rfl, rfl, rfl, rfl, rfl⟩ ⟨rfl, trivial⟩ (fun i o h => ?_)
    obtain ⟨o, c⟩ := o
    obtain ⟨i1, i2, i3, i4, i5⟩ := h
    simp only at i2 i3 i4 i5
    have gp := wp.getD i
    have gq := wq.getD i
    rw [B_val] at gp gq
    by_cases hin : i < p.length
    · have hstep := addL_step wp wq i3 (by omega) i4 i5
      by_cases hq : i < q.length
      · repeat' (first | refine wG ?_ | refine cl 139 tt rfl rfl rfl (hr := bits_Add32 _ _ _ gp gq i4) (k := ?_) | refine wS ?_ ?_ <;> intro _ | refine finG ?_)
        exact ⟨i + 1, (_, _), ⟨by omega, by simp; omega, hstep.1, hstep.2.1, hstep.2.2⟩, by omega, ⟨rfl, rfl, rfl, rfl, rfl, rfl, iv (by omega), rfl⟩, rfl, trivial⟩
      · have hq0 := getD_take_le q i (by omega)
        rw [hq0] at hstep
        repeat' (first | refine wG ?_ | refine cl 139 tt rfl rfl rfl (hr := bits_Add32 _ 0 _ gp (by omega) i4) (k := ?_) | refine wS ?_ ?_ <;> intro _ | refine finG ?_)
        exact ⟨i + 1, (_, _), ⟨by omega, by simp; omega, hstep.1, hstep.2.1, hstep.2.2⟩, by omega, ⟨rfl, rfl, rfl, rfl, rfl, rfl, iv (by omega), rfl⟩, rfl, trivial⟩
    · have : i = p.length := by omega
      subst this
      have hset := val_take_set o p.length c (by omega)
      have hwf : WF (o.set p.length c) := i3.set _ (by rw [B_val]; omega)
      have ht := natural_trimmed (o.set p.length c) (by simp; omega)
      rw [trimL_limbs hwf] at ht
      rw [val_take_all _ (by simp; omega), Nat.mul_comm, i5, val_take_all p (Nat.le_refl _), val_take_all q (by omega), hval] at hset
      rw [hset] at ht
      repeat' (first | refine wG ?_ | refine wC ht ?_ | refine wS ?_ ?_ <;> intro _ | refine finG ?_)
      rfl
  · repeat' (first | refine wG ?_ | refine wS ?_ ?_ <;> intro _ | refine finG ?_)
    · exact ⟨b0, a0, ⟨wb', wa', by omega, by omega, by omega⟩, ⟨rfl, rfl, rfl⟩, trivial⟩
    · exact ⟨a0, b0, ⟨wa', wb', by omega, by omega, by omega⟩, ⟨rfl, rfl, rfl⟩, trivial⟩
theorem natural_Sub (a b : List Nat) (wa : WF a) (wb : WF b) (hla : a.length < 10000000000) (hlb : b.length < 10000000000) : Ret Tryz.prog 114 [u32s a, u32s b] (· = if nv a < nv b then .tup [u32s [], .bool false] else .tup [u32s (limbs (nv a - nv b)), .bool true]) := by
  have h1 := natural_value a (by omega)
  have h2 := natural_value b (by omega)
  have la := takeL_le a
  have lb := takeL_le b
  have wa' := wf_takeL wa
  have wb' := wf_takeL wb
  have va : val (takeL a) = nv a := rfl
  have vb : val (takeL b) = nv b := rfl
  have hc := natural_Compare (takeL a) (takeL b) wa' wb' (by omega) (by omega)
  have e1 : nv (takeL a) = nv a := by rw [takeL_limbs wa, nv_limbs]
  have e2 : nv (takeL b) = nv b := by rw [takeL_limbs wb, nv_limbs]
  have hlen : nv b ≤ nv a → (takeL b).length ≤ (takeL a).length := fun h => by rw [takeL_limbs wa, takeL_limbs wb]; exact limbs_len_mono h
  rw [e1, e2] at hc
  generalize takeL a = p at *
  generalize takeL b = q at *
  have hcn := cmpN_neg (nv a) (nv b)
  by_cases hlt : nv a < nv b
  · rw [if_pos hlt]
    refine ret_of_awp tab Tryz.func114 rfl rfl (Nat.le_of_ble_eq_true rfl) (fun w0 F0 => ?_)
    repeat' (first | refine wG ?_ | refine wC h1 ?_ | refine wC h2 ?_ | refine wC hc ?_ | refine wS ?_ ?_ <;> intro _ | refine finTG ?_)
    exact leT
  · rw [if_neg hlt]
    have hqp := hlen (by omega)
    refine ret_of_awp tab Tryz.func114 rfl rfl (Nat.le_of_ble_eq_true rfl) (fun w0 F0 => ?_)
    repeat' (first | refine wG ?_ | refine wC h1 ?_ | refine wC h2 ?_ | refine wC hc ?_ | refine wS ?_ ?_ <;> intro _ | refine finTG ?_)
    refine awp_loop2 (fun (i : Nat) (o : List Nat × Nat) => ([(0, .d (u32s p)), (1, .d (u32s q)), (6, .own 21 0 p.length 56 1), (7, .d (.int .u32 o.2)), (22, .d (u32s p)), (23, .d (.int .i64 p.length)), (24, .d (.int .i64 i))], [(21, .data 56 1 (eN .u32) 0 o.1)])) (fun i o => i ≤ p.length ∧ o.1.length = p.length ∧ WF o.1 ∧ o.2 ≤ 1 ∧ val (o.1.take i) + val (q.take i) = val (p.take i) + o.2 * B ^ i) (fun i o => p.length - i) 0 (List.replicate p.length 0, 0) ⟨by omega, by simp, wf_replicate _, by omega, by simp [val]⟩ ⟨rfl, rfl, rfl, rfl, rfl, rfl, rfl, rfl⟩ ⟨rfl, trivial⟩ (fun i o h => ?_)
    obtain ⟨o, c⟩ := o
    obtain ⟨i1, i2, i3, i4, i5⟩ := h
    simp only at i2 i3 i4 i5
    have gp := wa'.getD i
    have gq := wb'.getD i
    rw [B_val] at gp gq
    by_cases hin : i < p.length
    · obtain ⟨d, hd⟩ : ∃ d : Nat, ((p.getD i 0 : Nat) : Int) - (q.getD i 0 : Nat) - c + (if p.getD i 0 < q.getD i 0 + c then 4294967296 else 0) = d := ⟨(((p.getD i 0 : Nat) : Int) - (q.getD i 0 : Nat) - c + (if p.getD i 0 < q.getD i 0 + c then 4294967296 else 0)).toNat, by split <;> omega⟩
      have hstep := subL_step wa' wb' i3 (by omega) i4 i5 hd.symm
      have hsub := bits_Sub32 _ _ _ gp gq i4
      rw [hd] at hsub
      obtain ⟨c', hc', hc1⟩ : ∃ c' : Nat, (if p.getD i 0 < q.getD i 0 + c then 1 else 0) = c' ∧ c' ≤ 1 := ⟨_, rfl, by split <;> omega⟩
      rw [hc'] at hstep
      rw [show ((if p.getD i 0 < q.getD i 0 + c then 1 else 0 : Int)) = (c' : Int) by rw [← hc']; split <;> rfl] at hsub
      by_cases hq : i < q.length
      · repeat' (first | refine wG ?_ | refine wC hsub ?_ | refine wS ?_ ?_ <;> intro _ | refine finG ?_)
        exact ⟨i + 1, (_, _), ⟨by omega, by simp; omega, hstep.1, hc1, hstep.2⟩, by omega, ⟨rfl, rfl, rfl, rfl, rfl, rfl, iv (by omega), rfl⟩, rfl, trivial⟩
      · have hq0 := getD_take_le q i (by omega)
        rw [hq0] at hsub
        repeat' (first | refine wG ?_ | refine wC hsub ?_ | refine wS ?_ ?_ <;> intro _ | refine finG ?_)
        exact ⟨i + 1, (_, _), ⟨by omega, by simp; omega, hstep.1, hc1, hstep.2⟩, by omega, ⟨rfl, rfl, rfl, rfl, rfl, rfl, iv (by omega), rfl⟩, rfl, trivial⟩
    · have : i = p.length := by omega
      subst this
      have ht := natural_trimmed o (by omega)
      rw [trimL_limbs i3] at ht
      rw [val_take_all o (by omega), val_take_all p (Nat.le_refl _), val_take_all q (by omega)] at i5
      have hlo := val_lt i3
      rw [i2] at hlo
      have hc0 : c = 0 := by
        refine Nat.le_zero.1 (Nat.le_of_not_lt fun hc => ?_)
        have := Nat.mul_le_mul_right (B ^ p.length) (show 1 ≤ c from hc)
        have := val_lt wb'
        have : val q < B ^ p.length := Nat.lt_of_lt_of_le this (Nat.pow_le_pow_right (by decide) hqp)
        omega
      subst hc0
      rw [show val o = nv a - nv b by omega] at ht
      repeat' (first | refine wG ?_ | refine wC ht ?_ | refine wS ?_ ?_ <;> intro _ | refine finTG ?_)
      exact leT
theorem natural_Mul (a b : List Nat) (wa : WF a) (wb : WF b) (hla : a.length < 10000000000) (hlb : b.length < 10000000000) : Ret Tryz.prog 76 [u32s a, u32s b] (· = u32s (limbs (nv a * nv b))) := by
  have h1 := natural_value a (by omega)
  have h2 := natural_value b (by omega)
  have la := takeL_le a
  have lb := takeL_le b
  have wa' := wf_takeL wa
  have wb' := wf_takeL wb
  have va : val (takeL a) = nv a := rfl
  have vb : val (takeL b) = nv b := rfl
  generalize takeL a = p at *
  generalize takeL b = q at *
  refine ret_of_awp tab Tryz.func76 rfl rfl (Nat.le_of_ble_eq_true rfl) (fun w0 F0 => ?_)
  repeat' (first | refine wG ?_ | refine wC h1 ?_ | refine wC h2 ?_ | refine wS ?_ ?_ <;> intro _ | refine finG ?_)
  refine awp_loop2 (fun (i : Nat) (o : List Nat) => ([(0, .d (u32s p)), (1, .d (u32s q)), (5, .own 20 0 (p.length + q.length) 56 1), (21, .d (u32s p)), (22, .d (.int .i64 p.length)), (23, .d (.int .i64 i))], [(20, .data 56 1 (eN .u32) 0 o)])) (fun i o => i ≤ p.length ∧ o.length = p.length + q.length ∧ WF o ∧ val (o.take (i + q.length)) = val (p.take i) * val q) (fun i o => p.length - i) 0 (List.replicate (p.length + q.length) 0) ⟨by omega, by simp, wf_replicate _, ?_⟩ ⟨rfl, rfl, rfl, rfl, rfl, rfl, rfl⟩ ⟨rfl, trivial⟩ (fun i o h => ?_)
  · rw [List.take_replicate, List.take_zero]
    have : ∀ n, val (List.replicate n 0) = 0 := fun n => by induction n with
      | zero => rfl
      | succ n ih => rw [List.replicate_succ, val, ih]; rfl
    rw [this]; simp [val]
  obtain ⟨i1, i2, i3, i4⟩ := h
  by_cases hin : i < p.length
  · have gp := wa'.getD i
    rw [B_val] at gp
    have hps := val_take_succ p i
    repeat' (first | refine wG ?_ | refine wS ?_ ?_ <;> intro _ | refine finG ?_)
    refine awp_loop2 (fun (j : Nat) (o : List Nat × Nat) => ([(0, .d (u32s p)), (1, .d (u32s q)), (5, .own 20 0 (p.length + q.length) 56 1), (21, .d (u32s p)), (22, .d (.int .i64 p.length)), (23, .d (.int .i64 i)), (6, .d (.int .i64 i)), (7, .d (.int .u32 (p.getD i 0 : Nat))), (8, .d (.int .u64 o.2)), (28, .d (u32s q)), (29, .d (.int .i64 q.length)), (30, .d (.int .i64 j))], [(20, .data 56 1 (eN .u32) 0 o.1)])) (fun j o => j ≤ q.length ∧ o.1.length = p.length + q.length ∧ WF o.1 ∧ o.2 < 4294967296 ∧ val (o.1.take (i + q.length)) + o.2 * B ^ (i + j) = val (p.take i) * val q + B ^ i * (p.getD i 0 * val (q.take j))) (fun j o => q.length - j) 0 (o, 0) ⟨by omega, i2, i3, by omega, by simp [val, i4]⟩ ⟨rfl, rfl, rfl, rfl, rfl, rfl, rfl, rfl, rfl, rfl, rfl, rfl, rfl⟩ ⟨rfl, trivial⟩ (fun j o h => ?_)
    obtain ⟨o, c⟩ := o
    obtain ⟨j1, j2, j3, j4, j5⟩ := h
    simp only at j2 j3 j4 j5
    by_cases hjn : j < q.length
    · have gq := wb'.getD j
      rw [B_val] at gq
      have hstep := mulL_step j3 (show i + j < i + q.length by omega) (by omega) gp gq j4 j5
      have hxy : ((p.getD i 0 : Nat) : Int) * ((q.getD j 0 : Nat) : Int) = ((p.getD i 0 * q.getD j 0 : Nat) : Int) := by rw [Int.natCast_mul]
      have hxy2 : p.getD i 0 * q.getD j 0 ≤ 4294967295 * 4294967295 := Nat.mul_le_mul (by omega) (by omega)
      have go := j3.getD (i + j)
      rw [B_val] at go
      repeat' (first | refine wG ?_ | refine wS ?_ ?_ <;> intro _ | refine finG ?_)
      refine ⟨j + 1, (o.set (i + j) ((p.getD i 0 * q.getD j 0 + o.getD (i + j) 0 + c) % 4294967296), (p.getD i 0 * q.getD j 0 + o.getD (i + j) 0 + c) / 4294967296), ⟨by omega, by simp; omega, hstep.2.1, hstep.2.2.1, ?_⟩, by omega, ⟨rfl, rfl, rfl, rfl, rfl, rfl, rfl, rfl, iv ?_, rfl, rfl, iv (by omega), rfl⟩, blkEq ?_, trivial⟩
      · show _ + _ * B ^ (i + j + 1) = _
        rw [hstep.2.2.2, val_take_succ q j, Nat.mul_add, Nat.mul_add, Nat.pow_add]
        congr 2
        ac_rfl
      · dsimp only; omega
      · dsimp only; congr 1; omega
    · have : j = q.length := by omega
      subst this
      rw [List.take_of_length_le (Nat.le_refl _)] at j5
      have hfin : val ((o.set (i + q.length) c).take (i + q.length + 1)) = val (p.take (i + 1)) * val q := by
        rw [val_take_set o _ _ (by omega), Nat.mul_comm (B ^ (i + q.length)), j5, hps, Nat.add_mul, Nat.mul_assoc]
      repeat' (first | refine wG ?_ | refine wS ?_ ?_ <;> intro _ | refine finG ?_)
      refine ⟨i + 1, o.set (i + q.length) c, ⟨by omega, by simp; omega, j3.set _ (by rw [B_val]; omega), ?_⟩, by omega, ⟨rfl, rfl, rfl, rfl, rfl, iv (by omega), rfl⟩, blkEq ?_, trivial⟩
      · rw [← hfin, show i + 1 + q.length = i + q.length + 1 by omega]
      · first | rfl | (dsimp only; congr 1; omega)
  · have : i = p.length := by omega
    subst this
    have ht := natural_trimmed o (by omega)
    rw [trimL_limbs i3] at ht
    rw [val_take_all o (by omega), val_take_all p (Nat.le_refl _), va, vb] at i4
    rw [i4] at ht
    repeat' (first | refine wG ?_ | refine wC ht ?_ | refine wS ?_ ?_ <;> intro _ | refine finG ?_)
    rfl
theorem natural_short (a : List Nat) (d : Nat) (wa : WF a) (hla : a.length < 10000000000) (hd : 0 < d) (hdB : d < 4294967296) : Ret Tryz.prog 142 [u32s a, .int .u32 d] (· = .tup [u32s (limbs (val a / d)), .int .u32 (val a % d : Nat)]) := by
  refine ret_of_awp tab Tryz.func142 rfl rfl (Nat.le_of_ble_eq_true rfl) (fun w0 F0 => ?_)
  repeat' (first | refine wG ?_ | refine wS ?_ ?_ <;> intro _ | refine finG ?_)
  refine awp_loop2 (fun (i : Nat) (o : List Nat × Nat) => ([(0, .d (u32s a)), (1, .d (.int .u32 d)), (4, .own 9 0 a.length 56 1), (5, .d (.int .u32 o.2)), (6, .d (.int .i64 ((i : Int) - 1)))], [(9, .data 56 1 (eN .u32) 0 o.1)])) (fun i o => i ≤ a.length ∧ o.1.length = a.length ∧ WF o.1 ∧ o.2 < d ∧ val (a.drop i) = val (o.1.drop i) * d + o.2) (fun i o => i) a.length (List.replicate a.length 0, 0) ⟨by omega, by simp, wf_replicate _, hd, by simp [val]⟩ ⟨rfl, rfl, rfl, rfl, rfl, rfl⟩ ⟨rfl, trivial⟩ (fun i o h => ?_)
  obtain ⟨o, r⟩ := o
  obtain ⟨i1, i2, i3, i4, i5⟩ := h
  simp only at i2 i3 i4 i5
  by_cases h0 : 0 < i
  · obtain ⟨k, rfl⟩ : ∃ k, i = k + 1 := ⟨i - 1, by omega⟩
    have hstep := shortL_step wa i3 (show k < a.length by omega) (by omega) hd hdB i4 i5
    have ga := wa.getD k
    rw [B_val] at ga
    have hdv := bits_Div32 r (a.getD k 0) d i4 ga hdB
    have e : (((k + 1 : Nat) : Int) - 1).toNat = k := by omega
    rw [← e] at hdv
    repeat' (first | refine wG ?_ | refine wC hdv ?_ | refine wS ?_ ?_ <;> intro _ | refine finG ?_)
    refine ⟨k, (o.set k _, _), ⟨by omega, by simp; omega, hstep.2.2.1, hstep.2.1, hstep.2.2.2⟩, by omega, ⟨rfl, rfl, rfl, by rw [e]; rfl, iv (by omega), rfl⟩, blkEq ?_, trivial⟩
    rw [e]
  · have : i = 0 := by omega
    subst this
    have ht := natural_trimmed o (by omega)
    rw [trimL_limbs i3] at ht
    rw [List.drop_zero, List.drop_zero] at i5
    have e1 : val a / d = val o := by
      rw [i5, Nat.mul_comm, Nat.mul_add_div hd, Nat.div_eq_of_lt i4, Nat.add_zero]
    have e2 : val a % d = r := by rw [i5, Nat.mul_comm, Nat.mul_add_mod, Nat.mod_eq_of_lt i4]
    rw [e1, e2]
    repeat' (first | refine wG ?_ | refine wC ht ?_ | refine wS ?_ ?_ <;> intro _ | refine finTG ?_)
    exact leT
end Go.Proofs.YtoppaphffnojdaaGreat

/-
  Lists of limbs of a fixed length; shifts; the steps of a long division. Conditions: as each says.
-/
namespace Go.Vw
def padL : Nat → Nat → List Nat
  | 0, _ => []
  | n + 1, v => v % B :: padL n (v / B)
theorem padL_len : ∀ n v, (padL n v).length = n
  | 0, v => rfl
  | n + 1, v => by simp [padL, padL_len n]
theorem padL_wf : ∀ n v, WF (padL n v)
  | 0, v => WF.nil
  | n + 1, v => fun x hx => by
    simp only [padL, List.mem_cons] at hx
    rcases hx with rfl | hx
    · exact Nat.mod_lt _ (by decide)
    · exact padL_wf n _ x hx
theorem padL_val : ∀ n v, val (padL n v) = v % B ^ n
  | 0, v => by simp [padL, val, Nat.mod_one]
  | n + 1, v => by
    rw [padL, val, padL_val n, Nat.pow_succ, Nat.mul_comm (B ^ n), Nat.mod_mul]
theorem wf_ext : ∀ {a b : List Nat}, WF a → WF b → a.length = b.length → val a = val b → a = b
  | [], [], _, _, _, _ => rfl
  | [], _ :: _, _, _, h, _ => by simp at h
  | _ :: _, [], _, _, h, _ => by simp at h
  | x :: a, y :: b, ha, hb, hl, hv => by
    have h1 := ha.head
    have h2 := hb.head
    simp only [val] at hv
    rw [B_val] at hv h1 h2
    have e1 : x = y := by omega
    have e2 : val a = val b := by omega
    rw [e1, wf_ext ha.tail hb.tail (by simpa using hl) e2]
theorem padL_eq {l : List Nat} {n v : Nat} (h : WF l) (hl : l.length = n) (hv : val l = v) : l = padL n v := by
  subst hl hv
  exact wf_ext h (padL_wf _ _) (padL_len _ _).symm (by rw [padL_val, Nat.mod_eq_of_lt (val_lt h)])
theorem shift_step {o a : List Nat} {i s : Nat} (ha : WF a) (ho : WF o) (hi : i + 1 < o.length) (hs : s < 32) (hlo : o.getD i 0 < 2 ^ s) (hv : val (o.take (i + 1)) = val (a.take i) * 2 ^ s) :
    (o.getD i 0 ||| (a.getD i 0 * 2 ^ s) % 4294967296) = o.getD i 0 + (a.getD i 0 * 2 ^ s) % 4294967296 ∧ o.getD i 0 + (a.getD i 0 * 2 ^ s) % 4294967296 < 4294967296 ∧ (a.getD i 0 * 2 ^ s) / 4294967296 < 2 ^ s ∧ a.getD i 0 * 2 ^ s < 18446744073709551616 ∧
    WF ((o.set i (o.getD i 0 + (a.getD i 0 * 2 ^ s) % 4294967296)).set (i + 1) ((a.getD i 0 * 2 ^ s) / 4294967296)) ∧
    val (((o.set i (o.getD i 0 + (a.getD i 0 * 2 ^ s) % 4294967296)).set (i + 1) ((a.getD i 0 * 2 ^ s) / 4294967296)).take (i + 2)) = val (a.take (i + 1)) * 2 ^ s := by
  have h1 := ha.getD i
  rw [B_val] at h1
  have hpow : 2 ^ s * 2 ^ (32 - s) = 4294967296 := by rw [← Nat.pow_add, show s + (32 - s) = 32 by omega]
  have hp0 : 0 < 2 ^ s := Nat.pow_pos (by decide)
  have hp1 : 2 ^ s ≤ 2147483648 := Nat.le_trans (Nat.pow_le_pow_right (by decide) (show s ≤ 31 by omega)) (by decide)
  obtain ⟨x, hx⟩ : ∃ x, a.getD i 0 = x := ⟨_, rfl⟩
  obtain ⟨c, hc⟩ : ∃ c, o.getD i 0 = c := ⟨_, rfl⟩
  rw [hx] at h1 ⊢
  rw [hc] at hlo ⊢
  have hlow : (x * 2 ^ s) % 4294967296 = (x % 2 ^ (32 - s)) * 2 ^ s := by
    rw [← hpow, Nat.mul_comm (2 ^ s), Nat.mul_mod_mul_right]
  have hm : x % 2 ^ (32 - s) < 2 ^ (32 - s) := Nat.mod_lt _ (Nat.pow_pos (by decide))
  have hle : (x % 2 ^ (32 - s) + 1) * 2 ^ s ≤ 4294967296 := by
    rw [← hpow, Nat.mul_comm (2 ^ s)]; exact Nat.mul_le_mul_right _ hm
  rw [Nat.add_mul, Nat.one_mul, ← hlow] at hle
  have hxs : x * 2 ^ s < 4294967296 * 2 ^ s := Nat.mul_lt_mul_of_pos_right h1 hp0
  refine ⟨?_, by omega, ?_, ?_, ?_, ?_⟩
  · rw [Nat.or_comm, hlow, or_low _ _ _ hlo, Nat.add_comm]
  · rw [Nat.div_lt_iff_lt_mul (by decide), Nat.mul_comm (2 ^ s)]; exact hxs
  · have := Nat.mul_le_mul_left 4294967296 hp1
    omega
  · refine (ho.set _ (by rw [B_val]; omega)).set _ ?_
    rw [B_val]
    have : (x * 2 ^ s) / 4294967296 < 2 ^ s := by rw [Nat.div_lt_iff_lt_mul (by decide), Nat.mul_comm (2 ^ s)]; exact hxs
    omega
  · rw [val_take_set _ _ _ (by simpa using hi), val_take_set _ _ _ (by omega), val_take_succ a, hx]
    have h2 := val_take_succ o i
    rw [hc] at h2
    have h3 := Nat.div_add_mod (x * 2 ^ s) 4294967296
    generalize hq : x * 2 ^ s / 4294967296 = q at *
    generalize hr : x * 2 ^ s % 4294967296 = r at *
    rw [Nat.pow_succ, Nat.add_mul, ← hv, h2, Nat.mul_add, Nat.mul_assoc (B ^ i) x, ← h3, Nat.mul_add, ← B_val, Nat.mul_assoc]
    omega
theorem or_word {a b : Nat} (hb : b < 4294967296) : (((a : Int) * 4294967296).toNat ||| ((b : Int)).toNat) = a * 4294967296 + b := by
  have h := or_halves a b hb
  have e : ((a : Int) * 4294967296).toNat = a * 4294967296 := by omega
  rw [e, Int.toNat_natCast, h]
theorem or_two {a b : Nat} (hb : b < 4294967296) : (((b : Int)).toNat ||| ((a : Int) * 4294967296).toNat) = b + B * a := by
  have h := or_halves a b hb
  have e : ((a : Int) * 4294967296).toNat = a * 4294967296 := by omega
  rw [e, Int.toNat_natCast, Nat.or_comm, h, B_val]
  omega
theorem log2_div {x k : Nat} (h : 1 ≤ x / 2 ^ k) : x.log2 = k + (x / 2 ^ k).log2 := by
  have hp : 0 < 2 ^ k := Nat.pow_pos (by decide)
  have hx : x ≠ 0 := fun e => by subst e; simp at h
  generalize hz : x / 2 ^ k = z at *
  have hz0 : z ≠ 0 := by omega
  have a1 : 2 ^ z.log2 ≤ z := (Nat.le_log2 hz0).1 (Nat.le_refl _)
  have a2 : z < 2 ^ (z.log2 + 1) := (Nat.log2_lt hz0).1 (Nat.lt_succ_self _)
  have b1 : z * 2 ^ k ≤ x := by rw [← hz]; exact Nat.div_mul_le_self _ _
  have b2 : x < (z + 1) * 2 ^ k := by rw [← hz, Nat.mul_comm]; exact Nat.lt_mul_div_succ x hp
  refine Nat.le_antisymm ?_ ?_
  · refine Nat.le_of_lt_succ ((Nat.log2_lt hx).2 ?_)
    refine Nat.lt_of_lt_of_le b2 ?_
    rw [show (k + z.log2).succ = (z.log2 + 1) + k by omega, Nat.pow_add]
    exact Nat.mul_le_mul_right _ a2
  · rw [Nat.le_log2 hx, Nat.add_comm, Nat.pow_add]
    exact Nat.le_trans (Nat.mul_le_mul_right _ a1) b1
end Go.Vw

/-
  A slice held against nil: what is known of the outcome. Conditions: the table of types is the program's.
-/
namespace Go.Vw
open Go.RowKit

theorem run_isNil {P : Program} {w : World} {t e t2 : TypeId} {td : TyD} (ht : TyOk P t td) (hd : td.desc = .slice e) {ev : Operand → Value} {x y : Operand} {dst : Option Tmp} {ty : TypeId} {pos : String} {after : Array Edge} {g : Option (Nat × Bool)} {p : Option Addr} {n c : Nat} (hx : ev x = .slice p n c) (hy : ev y = .slice none 0 0) (neg : Bool) :
    (execOp ev ⟨dst, .binOp (if neg then .neq else .eql) t x y t2, ty, pos, after, g⟩).run P w = .ok (.value (.bool (neg != p.isNone))) w := by
  have hu := ht.und
  rw [hd] at hu
  have h1 : (Op.equal t (.slice p n c) (.slice none 0 0)).run P w = .ok p.isNone w := by
    have : ∀ d, (Op.equalIn (d + 1) t (.slice p n c) (.slice none 0 0)).run P w = .ok p.isNone w := fun d => by
      cases p <;> simp [Op.equalIn, run_underlying hu]
    exact this 9999
  cases neg <;> simp [execOp, hx, hy, eqGuard, binOp, h1]

section
variable {X : Ctx} {all : Array Oper} {rest : List Oper} {Q : Exit → St → Prop} {s : St} {o : Oper} {d : Tmp}
theorem awpL_isNil {t t2 e : TypeId} {td : TyD} {x y : Operand} {sz : Nat} {α : Type} {en : α → List D} {z : α} {l : List α} (hop : o.op = .binOp .eql t x y t2) (hdst : o.dst = some d) (hx : s.opd x = .d (.sl sz en z l)) (hy : s.opd y = .d .nils) (hg : gd all s o = some true) (hd : dstOk X.N (some d) = true) (ht : X.T t = some td) (hds : td.desc = .slice e) (k : ∀ b : Bool, (l ≠ [] → b = false) → awpL X all rest Q (s.put (some d) (.d (.bool b)))) : awpL X all (o :: rest) Q s := by
  obtain ⟨dst, op, ty, pos, after, g⟩ := o
  cases hop; cases hdst
  intro io F a w hs
  have hvx := hs.opd x
  have hvy := hs.opd y
  rw [hx] at hvx; rw [hy] at hvy
  simp only [VR, DR] at hvx hvy
  have key : ∀ (p : Option Addr) n c, a.eval x = .slice p n c → (l ≠ [] → p.isNone = false) → wpList X.P all (lift X Q) (⟨some d, .binOp .eql t x y t2, ty, pos, after, g⟩ :: rest) a w := fun p n c e hl => by
    have hr := run_isNil (P := X.P) (w := w) (dst := some d) (ty := ty) (pos := pos) (after := after) (g := g) (t2 := t2) (X.ok _ _ ht) hds e hvy false
    refine wpList_cons (opWp_value (gd_sound (fun t _ => hs.tm t) hg) (v := .bool p.isNone) (by simpa using hr) ?_)
    exact k p.isNone hl io F _ w (hs.put (dstOk_sound hd) (by simp only [VR, DR]))
  rcases hvx with ⟨⟨p, c0, e⟩, rfl⟩ | ⟨b, off, cap, arr, ty', fz, e, _⟩
  · exact key p 0 c0 e fun h => absurd rfl h
  · exact key _ _ _ e fun _ => rfl
theorem awpL_byte {u : UInt8} (d : Tmp) (h : s.tmps d = .d (.int .u8 u.toNat)) (k : ∀ n : Nat, n < 256 → n = u.toNat → awpL X all rest Q (s.put (some d) (.d (.int .u8 n)))) : awpL X all rest Q s := by
  have := k u.toNat u.toNat_lt rfl
  rwa [put_self h] at this
end
end Go.Vw

namespace Go.Proofs.YtoppaphffnojdaaGreat
open Go.Vw
attribute [local irreducible] awp awpL awpR

theorem slices_Clone (l : List Nat) (hl : l.length < 10000000000) : Ret Tryz.prog 141 [u32s l] (· = u32s l) := by
  refine ret_of_awp tab Tryz.func141 rfl rfl (Nat.le_of_ble_eq_true rfl) (fun w0 F0 => ?_)
  repeat' (first | refine wG ?_ | refine wS ?_ ?_ <;> intro _ | refine finG ?_)
  refine awpL_isNil rfl rfl rfl rfl rfl rfl rfl rfl (fun b hb => ?_)
  cases b with
  | true =>
    have : l = [] := Classical.byContradiction fun h => by simpa using hb h
    subst this
    repeat' (first | refine wG ?_ | refine wS ?_ ?_ <;> intro _ | refine finG ?_)
    rfl
  | false =>
    repeat' (first | refine wG ?_ | refine wS ?_ ?_ <;> intro _ | refine finG ?_)
    rfl
theorem natural_gcd (a b : Nat) (ha : a < 18446744073709551616) (hb : b < 18446744073709551616) : Ret Tryz.prog 145 [.int .u64 a, .int .u64 b] (· = .int .u64 (Nat.gcd a b : Nat)) := by
  refine ret_of_awp tab Tryz.func145 rfl rfl (Nat.le_of_ble_eq_true rfl) (fun w0 F0 => ?_)
  repeat' (first | refine wG ?_ | refine rg 2 5 ?_ | refine wS ?_ ?_ <;> intro _ | refine finG ?_)
  refine awp_loop2 (fun (x y : Nat) => ([(0, .d (.int .u64 x)), (1, .d (.int .u64 y))], [])) (fun x y => x < 18446744073709551616 ∧ y < 18446744073709551616 ∧ Nat.gcd x y = Nat.gcd a b) (fun x y => y) a b ⟨ha, hb, rfl⟩ ⟨rfl, rfl, rfl⟩ trivial (fun x y h => ?_)
  obtain ⟨hx, hy, hg⟩ := h
  by_cases h0 : y = 0
  · subst h0
    repeat' (first | refine wG ?_ | refine rg 2 5 ?_ | refine wS ?_ ?_ <;> intro _ | refine finG ?_)
    rw [← hg, Nat.gcd_zero_right]
  · have hm := Nat.mod_lt x (show 0 < y by omega)
    repeat' (first | refine wG ?_ | refine rg 2 5 ?_ | refine wS ?_ ?_ <;> intro _ | refine finG ?_)
    refine ⟨y, x % y, ⟨hy, by omega, ?_⟩, hm, ⟨rfl, iv (by omega), rfl⟩, trivial⟩
    rw [← hg, Nat.gcd_comm y, Nat.gcd_comm x, Nat.gcd_rec y x, Nat.gcd_comm]
set_option maxRecDepth 100000 in
theorem bits_Len32 (x : Nat) (hx : x < 4294967296) (h0 : 0 < x) : Ret Tryz.prog 167 [.int .u32 x] (· = .int .i64 (x.log2 + 1 : Nat)) := by
  refine ret_of_awp tab Tryz.func167 rfl rfl (Nat.le_of_ble_eq_true rfl) (fun w0 F0 => ?_)
  repeat' (first | refine wG ?_ | refine wS ?_ ?_ <;> intro _ | refine finG ?_)
  · refine stepQ false tt stt rfl rfl rfl ⟨by omega, Nat.lt_of_lt_of_le (show _ < 256 by omega) (Nat.le_of_ble_eq_true rfl)⟩ ?_
    refine awpL_byte 16 rfl (fun n hn he => ?_)
    repeat' (first | refine wG ?_ | refine wS ?_ ?_ <;> intro _ | refine finG ?_)
    have hj : ((x : Int) / 65536 / 256).toNat = x / 2 ^ 24 := by omega
    have hl := log2_div (x := x) (k := 24) (by omega)
    rw [hl]
    rw [hj] at he
    have hz : x / 2 ^ 24 < 256 := by omega
    have hz1 : 1 ≤ x / 2 ^ 24 := by omega
    generalize x / 2 ^ 24 = z at *
    have e : n = z.log2 + 1 := by
      rw [he]
      clear he hl hj
      revert hz1
      revert hz
      revert z
      decide +kernel
    rw [e]
    congr 1 <;> omega
  · refine stepQ false tt stt rfl rfl rfl ⟨by omega, Nat.lt_of_lt_of_le (show _ < 256 by omega) (Nat.le_of_ble_eq_true rfl)⟩ ?_
    refine awpL_byte 16 rfl (fun n hn he => ?_)
    repeat' (first | refine wG ?_ | refine wS ?_ ?_ <;> intro _ | refine finG ?_)
    have hj : ((x : Int) / 65536).toNat = x / 2 ^ 16 := by omega
    have hl := log2_div (x := x) (k := 16) (by omega)
    rw [hl]
    rw [hj] at he
    have hz : x / 2 ^ 16 < 256 := by omega
    have hz1 : 1 ≤ x / 2 ^ 16 := by omega
    generalize x / 2 ^ 16 = z at *
    have e : n = z.log2 + 1 := by
      rw [he]
      clear he hl hj
      revert hz1
      revert hz
      revert z
      decide +kernel
    rw [e]
    congr 1 <;> omega
  · refine stepQ false tt stt rfl rfl rfl ⟨by omega, Nat.lt_of_lt_of_le (show _ < 256 by omega) (Nat.le_of_ble_eq_true rfl)⟩ ?_
    refine awpL_byte 16 rfl (fun n hn he => ?_)
    repeat' (first | refine wG ?_ | refine wS ?_ ?_ <;> intro _ | refine finG ?_)
    have hj : ((x : Int) / 256).toNat = x / 2 ^ 8 := by omega
    have hl := log2_div (x := x) (k := 8) (by omega)
    rw [hl]
    rw [hj] at he
    have hz : x / 2 ^ 8 < 256 := by omega
    have hz1 : 1 ≤ x / 2 ^ 8 := by omega
    generalize x / 2 ^ 8 = z at *
    have e : n = z.log2 + 1 := by
      rw [he]
      clear he hl hj
      revert hz1
      revert hz
      revert z
      decide +kernel
    rw [e]
    congr 1 <;> omega
  · refine stepQ false tt stt rfl rfl rfl ⟨by omega, Nat.lt_of_lt_of_le (show _ < 256 by omega) (Nat.le_of_ble_eq_true rfl)⟩ ?_
    refine awpL_byte 16 rfl (fun n hn he => ?_)
    repeat' (first | refine wG ?_ | refine wS ?_ ?_ <;> intro _ | refine finG ?_)
    have hj : ((x : Int)).toNat = x / 2 ^ 0 := by omega
    have hl := log2_div (x := x) (k := 0) (by omega)
    rw [hl]
    rw [hj] at he
    have hz : x / 2 ^ 0 < 256 := by omega
    have hz1 : 1 ≤ x / 2 ^ 0 := by omega
    generalize x / 2 ^ 0 = z at *
    have e : n = z.log2 + 1 := by
      rw [he]
      clear he hl hj
      revert hz1
      revert hz
      revert z
      decide +kernel
    rw [e]
    congr 1 <;> omega
set_option maxHeartbeats 2000000 in
theorem natural_Uint (a : List Nat) (wa : WF a) (hla : a.length < 10000000000) : Ret Tryz.prog 70 [u32s a] (· = if nv a < 18446744073709551616 then .tup [.int .u64 (nv a), .bool true] else .tup [.int .u64 0, .bool false]) := by
  have h1 := natural_value a (by omega)
  rw [takeL_limbs wa] at h1
  have vl := val_limbs (nv a)
  have wl := wf_limbs (nv a)
  have ll := @length_limbs_le (nv a) 2
  have lt := lt_pow_length (nv a)
  have ln := takeL_le a
  rw [takeL_limbs wa] at ln
  generalize nv a = n at *
  generalize limbs n = p at *
  by_cases hlt : n < 18446744073709551616
  · rw [if_pos hlt]
    have hp := ll (by rw [B_val]; exact hlt)
    refine ret_of_awp tab Tryz.func70 rfl rfl (Nat.le_of_ble_eq_true rfl) (fun w0 F0 => ?_)
    repeat' (first | refine wG ?_ | refine wC h1 ?_ | refine wS ?_ ?_ <;> intro _ | refine finTG ?_)
    refine awp_loop1 (fun (i : Nat) => ([(0, .d (u32s p)), (2, .d (.int .u64 (val (p.take i)))), (11, .d (u32s p)), (12, .d (.int .i64 p.length)), (13, .d (.int .i64 i))], [])) (fun i => i ≤ p.length) (fun i => p.length - i) 0 (by omega) ⟨rfl, rfl, rfl, rfl, rfl, rfl⟩ trivial (fun i hi => ?_)
    by_cases hin : i < p.length
    · have hi01 : i = 0 ∨ i = 1 := by omega
      have gp := wl.getD i
      rw [B_val] at gp
      have hts := val_take_succ p i
      have hvl := val_lt (wl.take i)
      rcases hi01 with rfl | rfl
      · have hv0 : val (p.take 0) = 0 := rfl
        repeat' (first | refine wG ?_ | refine wS ?_ ?_ <;> intro _ | refine finG ?_)
        refine ⟨1, by omega, by omega, ⟨rfl, iv ?_, rfl, rfl, iv (by omega), rfl⟩, trivial⟩
        rw [hts, hv0]
        simp
      · have hl1 : (p.take 1).length = 1 := by simp; omega
        rw [hl1, Nat.pow_one, B_val] at hvl
        repeat' (first | refine wG ?_ | refine wS ?_ ?_ <;> intro _ | refine finG ?_)
        refine ⟨2, by omega, by omega, ⟨rfl, iv ?_, rfl, rfl, iv (by omega), rfl⟩, trivial⟩
        have hor := or_two (a := p.getD 1 0) hvl
        rw [hts, Nat.pow_one, hor]
    · have : i = p.length := by omega
      subst this
      rw [List.take_of_length_le (Nat.le_refl _), vl]
      repeat' (first | refine wG ?_ | refine wS ?_ ?_ <;> intro _ | refine finTG ?_)
      exact leT
  · rw [if_neg hlt]
    have hp : 2 < p.length := Classical.byContradiction fun h => by
      have := Nat.pow_le_pow_right (show 0 < B by decide) (show p.length ≤ 2 by omega)
      rw [B_val] at this lt
      omega
    refine ret_of_awp tab Tryz.func70 rfl rfl (Nat.le_of_ble_eq_true rfl) (fun w0 F0 => ?_)
    repeat' (first | refine wG ?_ | refine wC h1 ?_ | refine wS ?_ ?_ <;> intro _ | refine finTG ?_)
    exact leT
theorem bits_LeadingZeros32 (x : Nat) (hx : x < 4294967296) (h0 : 0 < x) : Ret Tryz.prog 154 [.int .u32 x] (· = .int .i64 (31 - x.log2 : Nat)) := by
  have h := bits_Len32 x hx h0
  have hl : x.log2 < 32 := (Nat.log2_lt (by omega)).2 hx
  generalize x.log2 = g at *
  refine ret_of_awp tab Tryz.func154 rfl rfl (Nat.le_of_ble_eq_true rfl) (fun w0 F0 => ?_)
  repeat' (first | refine wG ?_ | refine wC h ?_ | refine wS ?_ ?_ <;> intro _ | refine finG ?_)
  congr 1
  omega
theorem natural_shifted (a : List Nat) (s : Nat) (wa : WF a) (hla : a.length < 10000000000) (hs : s < 32) : RetB Tryz.prog 155 [.d (u32s a), .d (.int .i64 s)] (lookB []) (.own 12 0 (a.length + 1) 56 1) (lookB [(12, .data 56 1 (eN .u32) 0 (padL (a.length + 1) (val a * 2 ^ s)))]) := by
  refine retB_of_awp tab [] Tryz.func155 rfl rfl rfl (Nat.le_of_ble_eq_true rfl) rfl trivial (fun w0 F0 A io0 => ?_)
  repeat' (first | refine wG ?_ | refine wS ?_ ?_ <;> intro _ | refine wB ?_ ?_)
  refine awp_loop2 (fun (i : Nat) (o : List Nat) => ([(0, .d (u32s a)), (1, .d (.int .i64 s)), (5, .own 12 0 (a.length + 1) 56 1), (13, .d (u32s a)), (14, .d (.int .i64 a.length)), (15, .d (.int .i64 i))], [(12, .data 56 1 (eN .u32) 0 o)])) (fun i o => i ≤ a.length ∧ o.length = a.length + 1 ∧ WF o ∧ o.getD i 0 < 2 ^ s ∧ val (o.take (i + 1)) = val (a.take i) * 2 ^ s) (fun i o => a.length - i) 0 (List.replicate (a.length + 1) 0) ⟨by omega, by simp, wf_replicate _, by simp [List.replicate_succ, Nat.pow_pos], by simp [List.replicate_succ, val]⟩ ⟨rfl, rfl, rfl, rfl, rfl, rfl, rfl⟩ ⟨rfl, trivial⟩ (fun i o h => ?_)
  obtain ⟨i1, i2, i3, i4, i5⟩ := h
  by_cases hin : i < a.length
  · obtain ⟨s1, s2, s3, s4, s5, s6⟩ := shift_step wa i3 (show i + 1 < o.length by omega) hs i4 i5
    have ga := wa.getD i
    have go := i3.getD i
    rw [B_val] at ga go
    have hsh : ((a.getD i 0 : Nat) : Int) * 2 ^ ((s : Int)).toNat = ((a.getD i 0 * 2 ^ s : Nat) : Int) := by rw [Int.toNat_natCast, Int.natCast_mul, Int.natCast_pow]; rfl
    have keep := And.intro s1 (And.intro s3 (And.intro s5 s6))
    clear s1 s3 s5 s6 i5
    generalize hP : (2 : Int) ^ ((s : Int)).toNat = P at hsh
    repeat' (first | refine wG ?_ | refine wS ?_ ?_ <;> intro _ | refine wB ?_ ?_)
    obtain ⟨k1, k2, k3, k4⟩ := keep
    refine ⟨i + 1, (o.set i (o.getD i 0 + a.getD i 0 * 2 ^ s % 4294967296)).set (i + 1) (a.getD i 0 * 2 ^ s / 4294967296), ⟨by omega, by simp; omega, k3, ?_, k4⟩, by omega, ⟨rfl, rfl, rfl, rfl, rfl, iv (by omega), rfl⟩, blkEq ?_, trivial⟩
    · simp [List.getD_eq_getElem?_getD, show i + 1 < o.length by omega]
      simpa using k2
    · have e1 : (((a.getD i 0 : Nat) : Int) * 2 ^ ((s : Int)).toNat % 18446744073709551616) = ((a.getD i 0 * 2 ^ s : Nat) : Int) := by
        rw [hP, hsh]; exact Int.emod_eq_of_lt (Int.natCast_nonneg _) (Int.ofNat_lt.2 s4)
      rw [e1]
      have e2 : (((a.getD i 0 * 2 ^ s : Nat) : Int) % 4294967296).toNat = a.getD i 0 * 2 ^ s % 4294967296 := by omega
      have e3 : (((a.getD i 0 * 2 ^ s : Nat) : Int) / 4294967296).toNat = a.getD i 0 * 2 ^ s / 4294967296 := by omega
      rw [e2, e3, Int.toNat_natCast, k1]
  · have : i = a.length := by omega
    subst this
    rw [val_take_all o (by omega), val_take_all a (Nat.le_refl _)] at i5
    have e := padL_eq i3 i2 i5
    subst e
    repeat' (first | refine wG ?_ | refine wS ?_ ?_ <;> intro _ | refine wB ?_ ?_)
    · exact leVT
    · exact ⟨rfl, trivial⟩
end Go.Proofs.YtoppaphffnojdaaGreat

/-
  A part of a row of limbs rewritten limb by limb: a multiple taken away, a number put back. Conditions: as each says.
-/
namespace Go.Vw
def mid (U : List Nat) (j : Nat) (w : List Nat) : List Nat := U.take j ++ w ++ U.drop (j + w.length)
theorem mid_nil (U : List Nat) (j : Nat) : mid U j [] = U := by simp [mid]
theorem mid_len {U w : List Nat} {j : Nat} (h : j + w.length ≤ U.length) : (mid U j w).length = U.length := by simp [mid]; omega
theorem mid_wf {U w : List Nat} {j : Nat} (hU : WF U) (hw : WF w) : WF (mid U j w) := WF.append (WF.append (hU.take j) hw) (hU.drop _)
theorem mid_getD {U w : List Nat} {j : Nat} (h : j + w.length < U.length) : (mid U j w).getD (j + w.length) 0 = U.getD (j + w.length) 0 := by
  rw [List.getD_eq_getElem?_getD, List.getD_eq_getElem?_getD, mid, List.getElem?_append_right (by simp; omega)]
  simp [show min j U.length = j by omega, List.getElem?_drop]
theorem mid_set {U w : List Nat} {j d : Nat} (h : j + w.length < U.length) : (mid U j w).set (j + w.length) d = mid U j (w ++ [d]) := by
  unfold mid
  have hl : (U.take j ++ w).length = j + w.length := by simp; omega
  rw [List.set_append_right _ _ (by omega), hl, Nat.sub_self, List.drop_eq_getElem_cons h, List.set_cons_zero]
  simp [Nat.add_assoc]
theorem win_succ {U : List Nat} {j i : Nat} (h : j + i < U.length) : val ((U.drop j).take (i + 1)) = val ((U.drop j).take i) + B ^ i * U.getD (j + i) 0 := by
  rw [val_take_succ]
  congr 2
  simp [List.getD_eq_getElem?_getD, List.getElem?_drop]
theorem redL_step {U w v : List Nat} {j q c b d : Nat} (hU : WF U) (hw : WF w) (hv : WF v) (hj : j + w.length < U.length) (hq : q < 4294967296) (hc : c < 4294967296) (hb : b ≤ 1) (hval : val w + q * val (v.take w.length) = val ((U.drop j).take w.length) + B ^ w.length * (b + c)) (hcb : c * B ^ w.length ≤ q * val (v.take w.length))
    (hd : (d : Int) = (U.getD (j + w.length) 0 : Int) - ((c + q * v.getD w.length 0) % 4294967296 : Nat) - b + (if U.getD (j + w.length) 0 < (c + q * v.getD w.length 0) % 4294967296 + b then 4294967296 else 0)) :
    c + q * v.getD w.length 0 < 18446744073709551616 ∧ (c + q * v.getD w.length 0) / 4294967296 < 4294967296 ∧ WF (w ++ [d]) ∧ val (w ++ [d]) + q * val (v.take (w.length + 1)) = val ((U.drop j).take (w.length + 1)) + B ^ (w.length + 1) * ((if U.getD (j + w.length) 0 < (c + q * v.getD w.length 0) % 4294967296 + b then 1 else 0) + (c + q * v.getD w.length 0) / 4294967296) ∧ (c + q * v.getD w.length 0) / 4294967296 * B ^ (w.length + 1) ≤ q * val (v.take (w.length + 1)) := by
  have h1 := hU.getD (j + w.length)
  have h2 := hv.getD w.length
  rw [B_val] at h1 h2
  have hqy : q * v.getD w.length 0 ≤ 4294967295 * 4294967295 := Nat.mul_le_mul (by omega) (by omega)
  rw [win_succ hj, val_snoc, val_take_succ v, Nat.pow_succ]
  obtain ⟨u, hu⟩ : ∃ u, U.getD (j + w.length) 0 = u := ⟨_, rfl⟩
  obtain ⟨s, hs⟩ : ∃ s, c + q * v.getD w.length 0 = s := ⟨_, rfl⟩
  rw [hu] at h1 hd ⊢
  rw [hs] at hd ⊢
  obtain ⟨e, he, hde⟩ : ∃ e, (if u < s % 4294967296 + b then 1 else 0) = e ∧ d + s % 4294967296 + b = u + e * B := by
    refine ⟨_, rfl, ?_⟩
    rw [B_val]
    split at hd <;> split <;> omega
  rw [he]
  have hdB : d < 4294967296 := by split at hd <;> omega
  have hsq : s % 4294967296 + s / 4294967296 * B = s := by rw [B_val]; omega
  refine ⟨by omega, by omega, hw.snoc (by rw [B_val]; exact hdB), ?_, ?_⟩
  · have h4 : B ^ w.length * d + q * (B ^ w.length * v.getD w.length 0) + B ^ w.length * (b + c) = B ^ w.length * u + B ^ w.length * B * (e + s / 4294967296) := by
      have e1 : q * (B ^ w.length * v.getD w.length 0) = B ^ w.length * (q * v.getD w.length 0) := by ac_rfl
      rw [e1, ← Nat.mul_add, ← Nat.mul_add, Nat.mul_assoc, ← Nat.mul_add]
      congr 1
      have e2 : B * (e + s / 4294967296) = e * B + s / 4294967296 * B := by rw [Nat.mul_add, Nat.mul_comm B, Nat.mul_comm B]
      rw [e2]
      omega
    rw [Nat.mul_add q]
    omega
  · have h5 : s / 4294967296 * B * B ^ w.length ≤ s * B ^ w.length := Nat.mul_le_mul_right _ (by omega)
    have e1 : s / 4294967296 * (B ^ w.length * B) = s / 4294967296 * B * B ^ w.length := by ac_rfl
    have e2 : q * (val (v.take w.length) + B ^ w.length * v.getD w.length 0) = q * val (v.take w.length) + q * v.getD w.length 0 * B ^ w.length := by rw [Nat.mul_add]; congr 1; ac_rfl
    have e3 : s * B ^ w.length = c * B ^ w.length + q * v.getD w.length 0 * B ^ w.length := by rw [← hs, Nat.add_mul]
    rw [e1, e2]
    omega
theorem redL_done {w v : List Nat} {q c b W L : Nat} (hw : WF w) (hL : w.length = L) (hv : q * val v < B ^ L) (hb : b ≤ 1) (hval : val w + q * val v = W + B ^ L * (b + c)) (hcb : c * B ^ L ≤ q * val v) (hW : W < B ^ L) : w = padL L (if W < q * val v then W + B ^ L - q * val v else W - q * val v) ∧ (b ≠ 0 ↔ W < q * val v) := by
  have hp : 0 < B ^ L := Nat.pow_pos (by decide)
  have hc : c = 0 := by
    rcases Nat.eq_zero_or_pos c with h | h
    · exact h
    · have := Nat.mul_le_mul_right (B ^ L) (show 1 ≤ c from h); omega
  subst hc
  have hlt := val_lt hw
  rw [hL] at hlt
  have hb01 : b = 0 ∨ b = 1 := by omega
  rcases hb01 with rfl | rfl
  · rw [Nat.add_zero, Nat.mul_zero] at hval
    refine ⟨padL_eq hw hL ?_, by omega⟩
    rw [if_neg (by omega)]; omega
  · rw [Nat.add_zero, Nat.mul_one] at hval
    refine ⟨padL_eq hw hL ?_, by omega⟩
    rw [if_pos (by omega)]; omega
theorem resL_step {U w v : List Nat} {j c : Nat} (hU : WF U) (hw : WF w) (hv : WF v) (hj : j + w.length < U.length) (hc : c ≤ 1) (hval : val w + c * B ^ w.length = val ((U.drop j).take w.length) + val (v.take w.length)) :
    WF (w ++ [(U.getD (j + w.length) 0 + v.getD w.length 0 + c) % 4294967296]) ∧ (U.getD (j + w.length) 0 + v.getD w.length 0 + c) / 4294967296 ≤ 1 ∧ val (w ++ [(U.getD (j + w.length) 0 + v.getD w.length 0 + c) % 4294967296]) + (U.getD (j + w.length) 0 + v.getD w.length 0 + c) / 4294967296 * B ^ (w.length + 1) = val ((U.drop j).take (w.length + 1)) + val (v.take (w.length + 1)) := by
  have h1 := hU.getD (j + w.length)
  have h2 := hv.getD w.length
  rw [B_val] at h1 h2
  refine ⟨hw.snoc (by rw [B_val]; omega), by omega, ?_⟩
  rw [win_succ hj, val_snoc, val_take_succ v, Nat.pow_succ]
  obtain ⟨s, hs⟩ : ∃ s, U.getD (j + w.length) 0 + v.getD w.length 0 + c = s := ⟨_, rfl⟩
  rw [hs]
  have h3 : s % 4294967296 + s / 4294967296 * B = s := by rw [B_val]; omega
  have h4 : B ^ w.length * (s % 4294967296) + s / 4294967296 * (B ^ w.length * B) = B ^ w.length * s := by
    conv => rhs; rw [← h3, Nat.mul_add]
    rw [← Nat.mul_assoc, Nat.mul_comm (s / 4294967296), Nat.mul_assoc]
  rw [Nat.add_assoc, h4, ← hs, Nat.mul_add, Nat.mul_add]
  rw [Nat.mul_comm c] at hval
  omega
theorem resL_done {w : List Nat} {c W V L : Nat} (hw : WF w) (hL : w.length = L) (hval : val w + c * B ^ L = W + V) : w = padL L ((W + V) % B ^ L) := by
  have hlt := val_lt hw
  rw [hL] at hlt
  refine padL_eq hw hL ?_
  rw [← hval, Nat.add_mul_mod_self_right, Nat.mod_eq_of_lt hlt]
theorem est_init {b t u0 v1 v0 : Nat} (hb : 0 < b) (hv : 0 < v1) (hu : u0 < b) : est b (t * b + u0) (v1 * b + v0) ≤ t / v1 := by
  have h1 : (t * b + u0) / (v1 * b + v0) ≤ t / v1 := by
    have hlt := Nat.lt_mul_div_succ t hv
    refine Nat.le_of_lt_succ ((Nat.div_lt_iff_lt_mul (by have := Nat.mul_pos hv hb; omega)).2 ?_)
    have h2 : (t + 1) * b ≤ v1 * (t / v1 + 1) * b := Nat.mul_le_mul_right _ hlt
    have e : v1 * (t / v1 + 1) * b = (t / v1 + 1) * (v1 * b) := by ac_rfl
    rw [e, Nat.add_mul t 1 b] at h2
    rw [Nat.succ_eq_add_one, Nat.mul_add]
    generalize (t / v1 + 1) * (v1 * b) = x at *
    omega
  unfold est; omega
end Go.Vw

set_option maxHeartbeats 8000000
namespace Go.Proofs.YtoppaphffnojdaaGreat
open Go.Vw
attribute [local irreducible] awp awpL awpR

section
attribute [local irreducible] Int.decLt Int.decLe
theorem natural_guess (u2 u1 u0 v1 v0 t g : Nat) (ht : t = u2 * 4294967296 + u1) (hg : g = est 4294967296 (t * 4294967296 + u0) (v1 * 4294967296 + v0)) (h2 : u2 ≤ v1) (h1 : u1 < 4294967296) (h0 : u0 < 4294967296) (k1 : v1 < 4294967296) (k0 : v0 < 4294967296) (hv : 0 < v1) : Ret Tryz.prog 156 [.int .u32 u2, .int .u32 u1, .int .u32 u0, .int .u32 v1, .int .u32 v0] (· = .int .u64 g) := by
  have e1 := or_word (a := u2) h1
  rw [← ht] at e1
  have hin : g ≤ t / v1 := by rw [hg]; exact est_init (by decide) hv h0
  have hdm := Nat.div_add_mod t v1
  have hml := Nat.mod_lt t hv
  have htl : t < 18446744073709551616 := by omega
  have hqt := Nat.div_le_self t v1
  have hqb : ∀ q r, q * v1 + r = t → 4294967296 ≤ q → r < 4294967296 := fun q r he hq => by
    have := Nat.mul_le_mul_right v1 hq
    omega
  have hgo : ∀ q r, q * v1 + r = t → g ≤ q → (4294967296 ≤ q ∨ r * 4294967296 + u0 < q * v0) → 1 ≤ q ∧ g ≤ q - 1 ∧ (q - 1) * v1 + (r + v1) = t := fun q r he hq hgg => by
    rw [hg] at hq ⊢
    exact est_go (by decide) hv he h0 hq hgg
  have hdone : ∀ q r, q * v1 + r = t → g ≤ q → (r < 4294967296 ∨ q < 4294967296) → (r < 4294967296 → q < 4294967296 ∧ q * v0 ≤ r * 4294967296 + u0) → q = g := fun q r he hq hB hst => by
    rw [hg] at hq ⊢
    exact est_done (by decide) hv he k0 hq hB hst
  clear hg ht
  refine ret_of_awp tab Tryz.func156 rfl rfl (Nat.le_of_ble_eq_true rfl) (fun w0 F0 => ?_)
  repeat' (first | refine wG ?_ | refine rg 2 9 ?_ | refine wS ?_ ?_ <;> intro _ | refine finG ?_)
  rw [e1]
  refine awp_loop2 (fun (q r : Nat) => ([(2, .d (.int .u32 u0)), (3, .d (.int .u32 v1)), (4, .d (.int .u32 v0)), (12, .d (.int .u64 q)), (13, .d (.int .u64 r))], [])) (fun q r => q * v1 + r = t ∧ g ≤ q ∧ (r < 4294967296 ∨ q < 4294967296) ∧ r < 8589934592 ∧ q < 18446744073709551616) (fun q r => q) (t / v1) (t % v1) ⟨by rw [Nat.mul_comm]; exact hdm, hin, by omega, by omega, by omega⟩ ⟨rfl, rfl, rfl, iv (Int.natCast_ediv _ _).symm, iv (Int.natCast_emod _ _).symm, rfl⟩ trivial (fun q r h => ?_)
  obtain ⟨i1, i2, i3, i4, i5⟩ := h
  by_cases hr : r < 4294967296
  · by_cases hq : q < 4294967296
    · have hqv : q * v0 ≤ 4294967295 * 4294967295 := Nat.mul_le_mul (by omega) (by omega)
      have e2 := or_word (a := r) h0
      repeat' (first | refine wG ?_ | refine rg 2 9 ?_ | refine wS ?_ ?_ <;> intro _ | refine finG ?_)
      · rename_i x
        have x' : r * 4294967296 + u0 < q * v0 := by rw [e2] at x; exact Int.ofNat_lt.1 (by simpa using x)
        obtain ⟨g1, g2, g3⟩ := hgo q r i1 i2 (.inr x')
        exact ⟨q - 1, r + v1, ⟨g3, g2, by omega, by omega, by omega⟩, by omega, ⟨rfl, rfl, rfl, iv (by omega), iv (by omega), rfl⟩, trivial⟩
      · rename_i x
        have x' : q * v0 ≤ r * 4294967296 + u0 := by rw [e2] at x; exact Nat.not_lt.1 fun h => x (by have := Int.ofNat_lt.2 h; simpa using this)
        rw [hdone q r i1 i2 (.inl hr) (fun _ => ⟨hq, x'⟩)]
    · repeat' (first | refine wG ?_ | refine rg 2 9 ?_ | refine wS ?_ ?_ <;> intro _ | refine finG ?_)
      obtain ⟨g1, g2, g3⟩ := hgo q r i1 i2 (.inl (by omega))
      exact ⟨q - 1, r + v1, ⟨g3, g2, (Nat.lt_or_ge (q - 1) 4294967296).elim .inr (fun h => .inl (hqb _ _ g3 h)), by omega, by omega⟩, by omega, ⟨rfl, rfl, rfl, iv (by omega), iv (by omega), rfl⟩, trivial⟩
  · repeat' (first | refine wG ?_ | refine rg 2 9 ?_ | refine wS ?_ ?_ <;> intro _ | refine finG ?_)
    rw [hdone q r i1 i2 i3 (fun h => absurd h hr)]
end
theorem natural_reduce (U v : List Nat) (j L q : Nat) (hU : WF U) (hv : WF v) (hj : j + L ≤ U.length) (hUl : U.length < 100000000000) (hvl : v.length < L) (hq : q < 4294967296) : RetB Tryz.prog 157 [.own 1000 j L 56 1, .d (u32s v), .d (.int .u64 q)] (lookB [(1000, .data 56 1 (eN .u32) 0 U)]) (.d (.bool (decide (val ((U.drop j).take L) < q * val v)))) (lookB [(1000, .data 56 1 (eN .u32) 0 (mid U j (padL L (if val ((U.drop j).take L) < q * val v then val ((U.drop j).take L) + B ^ L - q * val v else val ((U.drop j).take L) - q * val v))))]) := by
  refine retB_of_awp tab [1000] Tryz.func157 rfl rfl rfl (Nat.le_of_ble_eq_true rfl) rfl ⟨by show _ ≤ (mid U j _).length; rw [mid_len (by rw [padL_len]; exact hj)]; exact Nat.le_refl _, trivial⟩ (fun w0 F0 A io0 => ?_)
  repeat' (first | refine wG ?_ | refine wS ?_ ?_ <;> intro _ | refine wB ?_ ?_)
  refine awp_loop2 (fun (w : List Nat) (s : Nat × Nat) => ([(0, .own 1000 j L 56 1), (1, .d (u32s v)), (2, .d (.int .u64 q)), (7, .d (.int .u64 s.1)), (8, .d (.int .u32 s.2)), (12, .d (.int .i64 L)), (13, .d (.int .i64 w.length))], [(1000, .data 56 1 (eN .u32) 0 (mid U j w))])) (fun w s => w.length ≤ L ∧ WF w ∧ s.1 < 4294967296 ∧ s.2 ≤ 1 ∧ val w + q * val (v.take w.length) = val ((U.drop j).take w.length) + B ^ w.length * (s.2 + s.1) ∧ s.1 * B ^ w.length ≤ q * val (v.take w.length)) (fun w s => L - w.length) [] (0, 0) ⟨by simp, WF.nil, by simp, by simp, by simp [val], by simp⟩ ⟨rfl, rfl, rfl, rfl, rfl, rfl, rfl, rfl⟩ ⟨by rw [mid_nil]; rfl, trivial⟩ (fun w s h => ?_)
  obtain ⟨c, b⟩ := s
  obtain ⟨i1, i2, i3, i4, i5, i6⟩ := h
  simp only at i3 i4 i5 i6
  have hml := mid_len (U := U) (j := j) (w := w) (by omega)
  by_cases hin : w.length < L
  · have hmg := mid_getD (U := U) (j := j) (w := w) (by omega)
    have hms := fun d => mid_set (U := U) (j := j) (w := w) (d := d) (by omega)
    have gu := hU.getD (j + w.length)
    have gy := hv.getD w.length
    rw [B_val] at gu gy
    rw [← hmg] at gu
    have hqy : q * v.getD w.length 0 ≤ 4294967295 * 4294967295 := Nat.mul_le_mul (by omega) (by omega)
    obtain ⟨s, hs⟩ : ∃ s, c + q * v.getD w.length 0 = s := ⟨_, rfl⟩
    have hsm : s % 4294967296 < 4294967296 := Nat.mod_lt _ (by decide)
    have hsub := bits_Sub32 _ _ _ gu hsm i4
    obtain ⟨d, hd⟩ : ∃ d : Nat, (((mid U j w).getD (j + w.length) 0 : Nat) : Int) - (s % 4294967296 : Nat) - b + (if (mid U j w).getD (j + w.length) 0 < s % 4294967296 + b then 4294967296 else 0) = d := ⟨((((mid U j w).getD (j + w.length) 0 : Nat) : Int) - (s % 4294967296 : Nat) - b + (if (mid U j w).getD (j + w.length) 0 < s % 4294967296 + b then 4294967296 else 0)).toNat, by split <;> omega⟩
    obtain ⟨b', hb', hb1⟩ : ∃ b' : Nat, (if (mid U j w).getD (j + w.length) 0 < s % 4294967296 + b then 1 else 0) = b' ∧ b' ≤ 1 := ⟨_, rfl, by split <;> omega⟩
    rw [hd, show ((if (mid U j w).getD (j + w.length) 0 < s % 4294967296 + b then 1 else 0 : Int)) = (b' : Int) by rw [← hb']; split <;> rfl] at hsub
    obtain ⟨k1, k2, k3, k4, k5⟩ := redL_step hU i2 hv (show j + w.length < U.length by omega) hq i3 i4 i5 i6 (by rw [hs, ← hmg]; exact hd.symm)
    rw [hs] at k1 k2 k4 k5
    rw [← hmg, hb'] at k4
    have hms := hms d
    clear i5 i6
    rcases j with _ | jj
    · rw [Nat.zero_add] at hsub hms
      by_cases hvn : w.length < v.length
      · repeat' (first | refine wG ?_ | refine wC hsub ?_ | refine wS ?_ ?_ <;> intro _ | refine wB ?_ ?_)
        refine ⟨w ++ [d], (s / 4294967296, b'), ⟨by simp; omega, k3, k2, hb1, ?_, ?_⟩, by simp; omega, ⟨rfl, rfl, rfl, iv (by dsimp only; omega), rfl, rfl, iv (by simp), rfl⟩, blkEq hms, trivial⟩
        · simpa using k4
        · simpa using k5
      · have hy0 := getD_take_le v w.length (by omega)
        rw [hy0] at hs
        repeat' (first | refine wG ?_ | refine wC hsub ?_ | refine wS ?_ ?_ <;> intro _ | refine wB ?_ ?_)
        refine ⟨w ++ [d], (s / 4294967296, b'), ⟨by simp; omega, k3, k2, hb1, ?_, ?_⟩, by simp; omega, ⟨rfl, rfl, rfl, iv (by dsimp only; omega), rfl, rfl, iv (by simp), rfl⟩, blkEq hms, trivial⟩
        · simpa using k4
        · simpa using k5
    · skip
      by_cases hvn : w.length < v.length
      · repeat' (first | refine wG ?_ | refine wC hsub ?_ | refine wS ?_ ?_ <;> intro _ | refine wB ?_ ?_)
        refine ⟨w ++ [d], (s / 4294967296, b'), ⟨by simp; omega, k3, k2, hb1, ?_, ?_⟩, by simp; omega, ⟨rfl, rfl, rfl, iv (by dsimp only; omega), rfl, rfl, iv (by simp), rfl⟩, blkEq hms, trivial⟩
        · simpa using k4
        · simpa using k5
      · have hy0 := getD_take_le v w.length (by omega)
        rw [hy0] at hs
        repeat' (first | refine wG ?_ | refine wC hsub ?_ | refine wS ?_ ?_ <;> intro _ | refine wB ?_ ?_)
        refine ⟨w ++ [d], (s / 4294967296, b'), ⟨by simp; omega, k3, k2, hb1, ?_, ?_⟩, by simp; omega, ⟨rfl, rfl, rfl, iv (by dsimp only; omega), rfl, rfl, iv (by simp), rfl⟩, blkEq hms, trivial⟩
        · simpa using k4
        · simpa using k5
  · have hwL : w.length = L := by omega
    rw [hwL] at i5 i6
    rw [List.take_of_length_le (show v.length ≤ L by omega)] at i5 i6
    have hvlt : q * val v < B ^ L := by
      have h1 := val_lt hv
      have h2 : B ^ (v.length + 1) ≤ B ^ L := Nat.pow_le_pow_right (by decide) hvl
      rw [Nat.pow_succ] at h2
      have h3 : q * val v ≤ B * val v := Nat.mul_le_mul_right _ (by rw [B_val]; omega)
      have h4 : B * val v < B * B ^ v.length := Nat.mul_lt_mul_of_pos_left h1 (by decide)
      rw [Nat.mul_comm B (B ^ v.length)] at h4
      omega
    have hWl : val ((U.drop j).take L) < B ^ L := by
      have := val_lt ((hU.drop j).take L)
      rwa [show ((U.drop j).take L).length = L by simp; omega] at this
    obtain ⟨d1, d2⟩ := redL_done i2 hwL hvlt i4 i5 i6 hWl
    rw [← d1]
    repeat' (first | refine wG ?_ | refine wS ?_ ?_ <;> intro _ | refine wB ?_ ?_)
    · have hb : (!decide ((b : Int) = 0)) = decide (val ((U.drop j).take L) < q * val v) := by
        by_cases hb0 : b = 0
        · rw [decide_eq_false (fun h => (d2.2 h) hb0)]; subst hb0; rfl
        · rw [decide_eq_true (d2.1 hb0), decide_eq_false (by omega)]; rfl
      show LeVT [.d (.bool (!decide ((b : Int) = 0)))] _
      rw [hb]
      exact leVT
    · exact ⟨rfl, trivial⟩
theorem natural_restore (U v : List Nat) (j L : Nat) (hU : WF U) (hv : WF v) (hj : j + L ≤ U.length) (hUl : U.length < 100000000000) (hvl : v.length < L) : RetB Tryz.prog 158 [.own 1000 j L 56 1, .d (u32s v)] (lookB [(1000, .data 56 1 (eN .u32) 0 U)]) (.tup []) (lookB [(1000, .data 56 1 (eN .u32) 0 (mid U j (padL L ((val ((U.drop j).take L) + val v) % B ^ L))))]) := by
  refine retB_of_awp tab [1000] Tryz.func158 rfl rfl rfl (Nat.le_of_ble_eq_true rfl) rfl ⟨by show _ ≤ (mid U j _).length; rw [mid_len (by rw [padL_len]; exact hj)]; exact Nat.le_refl _, trivial⟩ (fun w0 F0 A io0 => ?_)
  repeat' (first | refine wG ?_ | refine wS ?_ ?_ <;> intro _ | refine wB ?_ ?_)
  refine awp_loop2 (fun (w : List Nat) (c : Nat) => ([(0, .own 1000 j L 56 1), (1, .d (u32s v)), (4, .d (.int .u32 c)), (8, .d (.int .i64 L)), (9, .d (.int .i64 w.length))], [(1000, .data 56 1 (eN .u32) 0 (mid U j w))])) (fun w c => w.length ≤ L ∧ WF w ∧ c ≤ 1 ∧ val w + c * B ^ w.length = val ((U.drop j).take w.length) + val (v.take w.length)) (fun w c => L - w.length) [] 0 ⟨by simp, WF.nil, by simp, by simp [val]⟩ ⟨rfl, rfl, rfl, rfl, rfl, rfl⟩ ⟨by rw [mid_nil]; rfl, trivial⟩ (fun w c h => ?_)
  obtain ⟨i1, i2, i3, i4⟩ := h
  have hml := mid_len (U := U) (j := j) (w := w) (by omega)
  by_cases hin : w.length < L
  · have hmg := mid_getD (U := U) (j := j) (w := w) (by omega)
    have hms := fun d => mid_set (U := U) (j := j) (w := w) (d := d) (by omega)
    have gu := hU.getD (j + w.length)
    have gy := hv.getD w.length
    rw [B_val] at gu gy
    obtain ⟨k1, k2, k3⟩ := resL_step hU i2 hv (show j + w.length < U.length by omega) i3 i4
    rw [← hmg] at gu k1 k2 k3
    obtain ⟨s, hs⟩ : ∃ s, (mid U j w).getD (j + w.length) 0 + v.getD w.length 0 + c = s := ⟨_, rfl⟩
    have hadd := bits_Add32 _ _ _ gu gy i3
    rw [hs] at k1 k2 k3 hadd
    have hms := hms (s % 4294967296)
    clear i4
    rcases j with _ | jj
    · rw [Nat.zero_add] at hadd hms
      by_cases hvn : w.length < v.length
      · repeat' (first | refine wG ?_ | refine wC hadd ?_ | refine wS ?_ ?_ <;> intro _ | refine wB ?_ ?_)
        refine ⟨w ++ [s % 4294967296], s / 4294967296, ⟨by simp; omega, k1, k2, ?_⟩, by simp; omega, ⟨rfl, rfl, rfl, rfl, iv (by simp), rfl⟩, blkEq hms, trivial⟩
        simpa using k3
      · have hy0 := getD_take_le v w.length (by omega)
        rw [hy0] at hadd
        repeat' (first | refine wG ?_ | refine wC hadd ?_ | refine wS ?_ ?_ <;> intro _ | refine wB ?_ ?_)
        refine ⟨w ++ [s % 4294967296], s / 4294967296, ⟨by simp; omega, k1, k2, ?_⟩, by simp; omega, ⟨rfl, rfl, rfl, rfl, iv (by simp), rfl⟩, blkEq hms, trivial⟩
        simpa using k3
    · by_cases hvn : w.length < v.length
      · repeat' (first | refine wG ?_ | refine wC hadd ?_ | refine wS ?_ ?_ <;> intro _ | refine wB ?_ ?_)
        refine ⟨w ++ [s % 4294967296], s / 4294967296, ⟨by simp; omega, k1, k2, ?_⟩, by simp; omega, ⟨rfl, rfl, rfl, rfl, iv (by simp), rfl⟩, blkEq hms, trivial⟩
        simpa using k3
      · have hy0 := getD_take_le v w.length (by omega)
        rw [hy0] at hadd
        repeat' (first | refine wG ?_ | refine wC hadd ?_ | refine wS ?_ ?_ <;> intro _ | refine wB ?_ ?_)
        refine ⟨w ++ [s % 4294967296], s / 4294967296, ⟨by simp; omega, k1, k2, ?_⟩, by simp; omega, ⟨rfl, rfl, rfl, rfl, iv (by simp), rfl⟩, blkEq hms, trivial⟩
        simpa using k3
  · have hwL : w.length = L := by omega
    rw [hwL, List.take_of_length_le (show v.length ≤ L by omega)] at i4
    have d1 := resL_done i2 hwL i4
    rw [← d1]
    repeat' (first | refine wG ?_ | refine wS ?_ ?_ <;> intro _ | refine wB ?_ ?_)
    · exact LeVT.nil
    · exact ⟨rfl, trivial⟩
end Go.Proofs.YtoppaphffnojdaaGreat

/-
  Long division of lists of limbs: one digit, and the end. Conditions: as each says.
-/
namespace Go.Vw
theorem mid_drop {U w : List Nat} {j : Nat} (h : j ≤ U.length) : (mid U j w).drop j = w ++ U.drop (j + w.length) := by
  unfold mid
  rw [List.append_assoc, List.drop_append_of_le_length (by simp; omega), List.drop_eq_nil_of_le (by simp; omega), List.nil_append]
theorem mid_win {U w : List Nat} {j : Nat} (h : j ≤ U.length) : ((mid U j w).drop j).take w.length = w := by
  rw [mid_drop h, List.take_left]
theorem mid_take {U w : List Nat} {j : Nat} (h : j ≤ U.length) : (mid U j w).take j = U.take j := by
  unfold mid
  rw [List.append_assoc, List.take_append_of_le_length (by simp; omega), List.take_take, Nat.min_self]
theorem mid_mid {U w x : List Nat} {j : Nat} (h : j + w.length ≤ U.length) (hl : x.length = w.length) : mid (mid U j w) j x = mid U j x := by
  have h1 := mid_take (U := U) (w := w) (j := j) (by omega)
  show (mid U j w).take j ++ x ++ (mid U j w).drop (j + x.length) = _
  rw [h1, ← List.drop_drop, mid_drop (by omega), hl, List.drop_left]
  unfold mid
  rw [hl]
theorem val_mid {U w : List Nat} {j : Nat} (h : j + w.length ≤ U.length) : val (mid U j w) + B ^ j * val ((U.drop j).take w.length) = val U + B ^ j * val w := by
  have h1 : val U = val (U.take j) + B ^ j * val (U.drop j) := by
    conv => lhs; rw [← List.take_append_drop j U, val_append]
    rw [List.length_take, Nat.min_eq_left (by omega)]
  have h2 : val (U.drop j) = val ((U.drop j).take w.length) + B ^ w.length * val (U.drop (j + w.length)) := by
    conv => lhs; rw [← List.take_append_drop w.length (U.drop j), val_append]
    rw [List.length_take, List.drop_drop, Nat.min_eq_left (by simp; omega)]
  unfold mid
  rw [List.append_assoc, val_append, val_append, List.length_take, Nat.min_eq_left (by omega), h1, h2, Nat.mul_add, Nat.mul_add]
  omega
theorem win_all {U : List Nat} {j n V : Nat} (hU : WF U) (hj : j + n + 1 ≤ U.length) (hV : V < B ^ n) (hlt : val (U.drop (j + 1)) < V) : val ((U.drop j).take (n + 1)) = val (U.drop j) ∧ val (U.drop (j + n + 1)) = 0 ∧ val (U.drop j) < V * B := by
  have h1 : val (U.drop (j + 1)) = val ((U.drop (j + 1)).take n) + B ^ n * val (U.drop (j + n + 1)) := by
    conv => lhs; rw [← List.take_append_drop n (U.drop (j + 1)), val_append]
    rw [List.length_take, List.drop_drop, Nat.min_eq_left (by simp; omega), show j + 1 + n = j + n + 1 by omega]
  have h0 : val (U.drop (j + n + 1)) = 0 := by
    rcases Nat.eq_zero_or_pos (val (U.drop (j + n + 1))) with h | h
    · exact h
    · have := Nat.mul_le_mul_left (B ^ n) h
      omega
  have h2 : val (U.drop j) = val ((U.drop j).take (n + 1)) + B ^ (n + 1) * val (U.drop (j + n + 1)) := by
    conv => lhs; rw [← List.take_append_drop (n + 1) (U.drop j), val_append]
    rw [List.length_take, List.drop_drop, Nat.min_eq_left (by simp; omega), show j + (n + 1) = j + n + 1 by omega]
  rw [h0, Nat.mul_zero, Nat.add_zero] at h2
  refine ⟨h2.symm, h0, ?_⟩
  rw [val_drop U j (by omega)]
  have h3 := hU.getD j
  have h4 := Nat.mul_le_mul_left B (show val (U.drop (j + 1)) + 1 ≤ V from hlt)
  rw [Nat.mul_comm V B]
  rw [Nat.mul_add] at h4
  omega
theorem digit_done {W V g L : Nat} (hV : 0 < V) (hg : g = W / V ∨ g = W / V + 1) (hVL : V < B ^ L) : (if W < g * V then (W + B ^ L - g * V + V) % B ^ L else W - g * V) = W % V ∧ (if W < g * V then g - 1 else g) = W / V := by
  have h1 := Nat.div_add_mod W V
  have h2 := Nat.mod_lt W hV
  rw [Nat.mul_comm] at h1
  rcases hg with rfl | rfl
  · rw [if_neg (by omega), if_neg (by omega)]
    exact ⟨by omega, rfl⟩
  · have h3 : (W / V + 1) * V = W / V * V + V := by rw [Nat.add_mul, Nat.one_mul]
    rw [if_pos (by omega), if_pos (by omega)]
    refine ⟨?_, by simp⟩
    rw [h3]
    have h4 : W + B ^ L - (W / V * V + V) + V = W % V + B ^ L := by omega
    rw [h4, Nat.add_mod_right, Nat.mod_eq_of_lt (by omega)]
structure DivInv (A V : Nat) (n : Nat) (U Q : List Nat) (j : Nat) : Prop where
  wU : WF U
  wQ : WF Q
  eq : A = val (Q.drop j) * (B ^ j * V) + val U
  lt : val (U.drop j) < V
theorem DivInv.step {A V n j : Nat} {U Q : List Nat} (h : DivInv A V n U Q (j + 1)) (hV : V < B ^ n) (hV0 : 0 < V) (hj : j + n + 1 ≤ U.length) (hQ : j < Q.length) : val ((U.drop j).take (n + 1)) < V * B ∧ val ((U.drop j).take (n + 1)) / V < B ∧ DivInv A V n (mid U j (padL (n + 1) (val ((U.drop j).take (n + 1)) % V))) (Q.set j (val ((U.drop j).take (n + 1)) / V)) j := by
  obtain ⟨w1, w2, w3⟩ := win_all h.wU hj hV h.lt
  rw [w1]
  have hq : val (U.drop j) / V < B := by rw [Nat.div_lt_iff_lt_mul hV0, Nat.mul_comm]; exact w3
  refine ⟨w3, hq, mid_wf h.wU (padL_wf _ _), h.wQ.set _ hq, ?_, ?_⟩
  · have hm := val_mid (U := U) (j := j) (w := padL (n + 1) (val (U.drop j) % V)) (by rw [padL_len]; omega)
    have hr : val (U.drop j) % V < B ^ (n + 1) := by
      have := Nat.mod_lt (val (U.drop j)) hV0
      have h2 : B ^ n ≤ B ^ (n + 1) := Nat.pow_le_pow_right (by decide) (by omega)
      exact Nat.lt_of_lt_of_le (Nat.lt_trans this hV) h2
    rw [padL_len, padL_val, Nat.mod_eq_of_lt hr, w1] at hm
    have hd := val_drop (Q.set j (val (U.drop j) / V)) j (by simpa using hQ)
    rw [show (Q.set j (val (U.drop j) / V)).drop (j + 1) = Q.drop (j + 1) from List.drop_set_of_lt (by omega)] at hd
    have hg : (Q.set j (val (U.drop j) / V)).getD j 0 = val (U.drop j) / V := by simp [List.getD_eq_getElem?_getD, hQ]
    rw [hg] at hd
    rw [hd, Nat.add_mul, h.eq]
    have hdm := Nat.div_add_mod (val (U.drop j)) V
    generalize val (U.drop j) / V = q at *
    generalize val (U.drop j) % V = r at *
    generalize val (U.drop j) = W at *
    have e1 : B * val (Q.drop (j + 1)) * (B ^ j * V) = val (Q.drop (j + 1)) * (B ^ (j + 1) * V) := by rw [Nat.pow_succ]; ac_rfl
    have e2 : q * (B ^ j * V) = B ^ j * (V * q) := by ac_rfl
    rw [e1, e2]
    rw [← hdm, Nat.mul_add] at hm
    omega
  · rw [mid_drop (by omega), val_append, padL_len, padL_val, show j + (n + 1) = j + n + 1 by omega, w2, Nat.mul_zero, Nat.add_zero]
    exact Nat.lt_of_le_of_lt (Nat.mod_le _ _) (Nat.mod_lt _ hV0)
theorem DivInv.done {a b s n : Nat} {U Q : List Nat} (hb : 0 < b) (h : DivInv (a * 2 ^ s) (b * 2 ^ s) n U Q 0) : val Q = a / b ∧ val U / 2 ^ s = a % b := by
  have hp : 0 < 2 ^ s := Nat.pow_pos (by decide)
  have h1 := h.eq
  have h2 := h.lt
  rw [List.drop_zero, Nat.pow_zero, Nat.one_mul] at h1
  rw [List.drop_zero] at h2
  have h3 : a * 2 ^ s / (b * 2 ^ s) = a / b := Nat.mul_div_mul_right _ _ hp
  have h4 : a * 2 ^ s % (b * 2 ^ s) = a % b * 2 ^ s := Nat.mul_mod_mul_right _ _ _
  have h5 : val Q = a * 2 ^ s / (b * 2 ^ s) := by
    rw [h1, Nat.add_comm, Nat.mul_comm (val Q), Nat.add_mul_div_left _ _ (Nat.mul_pos hb hp), Nat.div_eq_of_lt h2, Nat.zero_add]
  have h6 : val U = a * 2 ^ s % (b * 2 ^ s) := by
    rw [h1, Nat.add_comm, Nat.mul_comm (val Q), Nat.add_mul_mod_self_left, Nat.mod_eq_of_lt h2]
  exact ⟨h5.trans h3, by rw [h6, h4, Nat.mul_div_cancel _ hp]⟩
end Go.Vw

/-
  Long division of lists of limbs: the estimate of one digit in terms of the limbs. Conditions: as each says.
-/
namespace Go.Vw
structure Hid (p : Prop) : Prop where
  out : p
theorem one_of {q x : Nat} (h : q ≤ x) (h2 : x ≤ q + 1) : x = q ∨ x = q + 1 := by omega
theorem DivInv.guess {A V k j : Nat} {U Q v : List Nat} (h : DivInv A V (k + 2) U Q (j + 1)) (hv : val v = V) (wv : WF v) (hvl : v.length = k + 2) (hVge : B ^ (k + 1) ≤ V) (hj : j + (k + 2) + 1 ≤ U.length) :
    U.getD (j + k + 2) 0 ≤ v.getD (k + 1) 0 ∧ 0 < v.getD (k + 1) 0 ∧ val ((U.drop j).take (k + 3)) / V ≤ est B ((U.getD (j + k + 2) 0 * B + U.getD (j + k + 1) 0) * B + U.getD (j + k) 0) (v.getD (k + 1) 0 * B + v.getD k 0) ∧ est B ((U.getD (j + k + 2) 0 * B + U.getD (j + k + 1) 0) * B + U.getD (j + k) 0) (v.getD (k + 1) 0 * B + v.getD k 0) ≤ val ((U.drop j).take (k + 3)) / V + 1 := by
  have hVlt : V < B ^ (k + 2) := by have := val_lt wv; rw [hv, hvl] at this; exact this
  obtain ⟨w1, w2, w3⟩ := win_all h.wU hj hVlt h.lt
  rw [← w1] at w3
  have hW : val ((U.drop j).take (k + 3)) = val ((U.drop j).take k) + B ^ k * U.getD (j + k) 0 + B ^ (k + 1) * U.getD (j + k + 1) 0 + B ^ (k + 2) * U.getD (j + k + 2) 0 := by
    rw [show k + 3 = k + 2 + 1 from rfl, win_succ (by omega), show k + 2 = k + 1 + 1 from rfl, win_succ (by omega), win_succ (by omega)]; rfl
  have hVe : V = val (v.take k) + B ^ k * v.getD k 0 + B ^ (k + 1) * v.getD (k + 1) 0 := by
    rw [← hv, ← val_take_all v (show v.length ≤ k + 1 + 1 by omega), val_take_succ, val_take_succ]
  have g0 := h.wU.getD (j + k)
  have g1 := h.wU.getD (j + k + 1)
  have g2 := h.wU.getD (j + k + 2)
  have c0 := wv.getD k
  have c1 := wv.getD (k + 1)
  have hwl : val ((U.drop j).take k) < B ^ k := by
    have := val_lt ((h.wU.drop j).take k)
    rwa [show ((U.drop j).take k).length = k by simp; omega] at this
  have hvl' : val (v.take k) < B ^ k := by
    have := val_lt (wv.take k)
    rwa [show (v.take k).length = k by simp; omega] at this
  change val ((U.drop j).take (k + 3)) < _ at w3
  generalize val ((U.drop j).take (k + 3)) = W at *
  generalize U.getD (j + k) 0 = u0 at *
  generalize U.getD (j + k + 1) 0 = u1 at *
  generalize U.getD (j + k + 2) 0 = u2 at *
  generalize v.getD k 0 = v0 at *
  generalize v.getD (k + 1) 0 = v1 at *
  generalize val ((U.drop j).take k) = wl at *
  generalize val (v.take k) = vl at *
  have hP : 0 < B ^ k := Nat.pow_pos (by decide)
  have e1 : B ^ (k + 1) = B * B ^ k := by rw [Nat.pow_succ, Nat.mul_comm]
  have e2 : B ^ (k + 2) = B * (B * B ^ k) := by rw [show k + 2 = k + 1 + 1 from rfl, Nat.pow_succ, e1, Nat.mul_comm]
  have hv1 : 0 < v1 := by
    rcases Nat.eq_zero_or_pos v1 with h | h
    · subst h
      have h1 : B ^ k * (v0 + 1) ≤ B ^ k * B := Nat.mul_le_mul_left _ c0
      rw [Nat.mul_add, Nat.mul_comm _ B, ← e1] at h1
      omega
    · exact h
  have hVlt2 : V < B ^ (k + 1) * (v1 + 1) := by
    have h1 : B ^ k * (v0 + 1) ≤ B ^ k * B := Nat.mul_le_mul_left _ c0
    rw [Nat.mul_add, Nat.mul_comm _ B, ← e1] at h1
    rw [Nat.mul_add]; omega
  have hu2 : u2 ≤ v1 := by
    refine Nat.le_of_lt_succ ?_
    have h1 : B ^ (k + 2) * u2 < V * B := by omega
    have h2 : V * B < B ^ (k + 1) * (v1 + 1) * B := Nat.mul_lt_mul_of_pos_right hVlt2 (by decide)
    rw [show B ^ (k + 1) * (v1 + 1) * B = B ^ (k + 2) * (v1 + 1) by rw [e2, e1]; ac_rfl] at h2
    exact Nat.lt_of_mul_lt_mul_left (Nat.lt_trans h1 h2)
  refine ⟨hu2, hv1, ?_⟩
  refine est_digit (by decide) hP (wl := wl) (vl := vl) ?_ hwl ?_ hvl' ?_ w3
  · rw [hW, e1, e2]
    have a1 : ((u2 * B + u1) * B + u0) * B ^ k = B ^ k * u0 + B * B ^ k * u1 + B * (B * B ^ k) * u2 := by
      rw [Nat.add_mul, Nat.add_mul, Nat.add_mul]
      have x1 : u2 * B * B * B ^ k = B * (B * B ^ k) * u2 := by ac_rfl
      have x2 : u1 * B * B ^ k = B * B ^ k * u1 := by ac_rfl
      rw [x1, x2, Nat.mul_comm u0]; omega
    rw [a1]; omega
  · rw [hVe, e1]
    have a1 : (v1 * B + v0) * B ^ k = B ^ k * v0 + B * B ^ k * v1 := by
      rw [Nat.add_mul]
      have x1 : v1 * B * B ^ k = B * B ^ k * v1 := by ac_rfl
      rw [x1, Nat.mul_comm v0]; omega
    rw [a1]; omega
  · have h1 : 1 * B ≤ v1 * B := Nat.mul_le_mul_right B hv1
    rw [Nat.one_mul] at h1
    exact Nat.le_trans h1 (Nat.le_add_right _ _)
theorem shr_cast (n s : Nat) : ((n : Int) / 2 ^ ((s : Int)).toNat % 4294967296).toNat = n / 2 ^ s % 4294967296 := by
  have h : (n : Int) / 2 ^ ((s : Int)).toNat % 4294967296 = ((n / 2 ^ s % 4294967296 : Nat) : Int) := by
    rw [Int.toNat_natCast]; simp
  rw [h]; rfl
theorem shr_limb {U : List Nat} (hU : WF U) {i s : Nat} (hs : s ≤ 32) (hi : i + 1 < U.length) : (U.getD (i + 1) 0 * 4294967296 + U.getD i 0) / 2 ^ s % 4294967296 = val U / 2 ^ s / B ^ i % B := by
  have h1 : val U = val (U.take i) + B ^ i * ((U.getD i 0 + B * U.getD (i + 1) 0) + B * B * val (U.drop (i + 2))) := by
    rw [val_split U i (by omega), val_drop U (i + 1) hi]
    rw [Nat.mul_add B (U.getD (i + 1) 0), Nat.mul_assoc B B, Nat.add_assoc (U.getD i 0)]
  have h2 : val (U.take i) < B ^ i := by
    have := val_lt (hU.take i)
    rwa [show (U.take i).length = i by simp; omega] at this
  generalize U.getD i 0 = x at *
  generalize U.getD (i + 1) 0 = y at *
  generalize val (U.drop (i + 2)) = z at *
  rw [Nat.div_div_eq_div_mul, Nat.mul_comm (2 ^ s), ← Nat.div_div_eq_div_mul, h1, Nat.add_mul_div_left _ _ (Nat.pow_pos (by decide)), Nat.div_eq_of_lt h2, Nat.zero_add, B_val]
  have h3 : (2 : Nat) ^ s * 2 ^ (32 - s) = 4294967296 := by rw [← Nat.pow_add, show s + (32 - s) = 32 by omega]
  have h4 : x + 4294967296 * y + 4294967296 * 4294967296 * z = y * 4294967296 + x + 2 ^ s * (2 ^ (32 - s) * 4294967296 * z) := by
    rw [← Nat.mul_assoc, ← Nat.mul_assoc, h3]; omega
  rw [h4, Nat.add_mul_div_left _ _ (Nat.pow_pos (by decide)), show 2 ^ (32 - s) * 4294967296 * z = 4294967296 * (2 ^ (32 - s) * z) by ac_rfl, Nat.add_mul_mod_self_left]
end Go.Vw

namespace Go.Proofs.YtoppaphffnojdaaGreat
open Go.Vw
attribute [local irreducible] awp awpL awpR

set_option maxHeartbeats 4000000 in
theorem natural_divide (a b : List Nat) (wa : WF a) (wb : WF b) (va : valid a = true) (vb : valid b = true) (hla : a.length < 10000000000) (hb2 : 2 ≤ b.length) (hba : b.length ≤ a.length) : Ret Tryz.prog 143 [u32s a, u32s b] (· = .tup [u32s (limbs (val a / val b)), u32s (limbs (val a % val b))]) := by
  have hbn : b ≠ [] := fun e => by rw [e] at hb2; simp at hb2
  -- the highest limb
  have htop : b.getD (b.length - 1) 0 ≠ 0 := by
    have := vb
    rw [list_snoc hbn, valid_snoc] at this
    simpa using this
  have htB := wb.getD (b.length - 1)
  rw [B_val] at htB
  obtain ⟨t, ht⟩ : ∃ t, b.getD (b.length - 1) 0 = t := ⟨_, rfl⟩
  rw [ht] at htop htB
  have hlz := bits_LeadingZeros32 t htB (by omega)
  obtain ⟨s, hs⟩ : ∃ s, 31 - t.log2 = s := ⟨_, rfl⟩
  rw [hs] at hlz
  have hs32 : s < 32 := by omega
  have hlog : t.log2 < 32 := (Nat.log2_lt htop).2 htB
  have hts : t * 2 ^ s < 4294967296 := by
    have h1 : t < 2 ^ (t.log2 + 1) := (Nat.log2_lt htop).1 (Nat.lt_succ_self _)
    have h2 : t * 2 ^ s < 2 ^ (t.log2 + 1) * 2 ^ s := Nat.mul_lt_mul_of_pos_right h1 (Nat.pow_pos (by decide))
    rw [← Nat.pow_add, show t.log2 + 1 + s = 32 by omega] at h2
    exact h2
  clear hs hlog
  have hp : 0 < 2 ^ s := Nat.pow_pos (by decide)
  -- the two numbers, shifted
  have hvb : val b = val (b.take (b.length - 1)) + B ^ (b.length - 1) * t := by
    have := val_split b (b.length - 1) (by omega)
    rw [ht, show b.length - 1 + 1 = b.length by omega, List.drop_length] at this
    simpa [val] using this
  have hVlt : val b * 2 ^ s < B ^ b.length := by
    have h1 := val_lt (wb.take (b.length - 1))
    rw [List.length_take, Nat.min_eq_left (by omega)] at h1
    have h2 : val b * 2 ^ s < B ^ (b.length - 1) * (t + 1) * 2 ^ s := by
      refine Nat.mul_lt_mul_of_pos_right ?_ hp
      rw [hvb, Nat.mul_add]; omega
    have h3 : (t + 1) * 2 ^ s ≤ B := by
      rw [B_val]
      have hpow : 2 ^ s * 2 ^ (32 - s) = 4294967296 := by rw [← Nat.pow_add, show s + (32 - s) = 32 by omega]
      rw [← hpow, Nat.mul_comm (2 ^ s)] at hts
      rw [← hpow, Nat.mul_comm (2 ^ s)]
      exact Nat.mul_le_mul_right _ (Nat.lt_of_mul_lt_mul_right hts)
    have h4 : B ^ (b.length - 1) * ((t + 1) * 2 ^ s) ≤ B ^ (b.length - 1) * B := Nat.mul_le_mul_left _ h3
    rw [← Nat.pow_succ, show (b.length - 1).succ = b.length by omega, ← Nat.mul_assoc] at h4
    omega
  have hb0 : 0 < val b := by
    rw [hvb]
    have := Nat.mul_pos (Nat.pow_pos (n := b.length - 1) (show 0 < B by decide)) (show 0 < t by omega)
    omega
  have hV0' : 0 < val b * 2 ^ s := Nat.mul_pos hb0 hp
  have hsa := natural_shifted a s wa (by omega) hs32
  have hsb := natural_shifted b s wb (by omega) hs32
  have htr := natural_trimmed (padL (b.length + 1) (val b * 2 ^ s)) (by rw [padL_len]; omega)
  rw [trimL_limbs (padL_wf _ _), padL_val, Nat.mod_eq_of_lt (Nat.lt_of_lt_of_le hVlt (Nat.pow_le_pow_right (by decide) (by omega)))] at htr
  have hsa' : RetB Tryz.prog 155 [.d (u32s a), .d (.int .i64 s)] (lookB []) (.own 500 0 (a.length + 1) 56 1) (lookB [(500, .data 56 1 (eN .u32) 0 (padL (a.length + 1) (val a * 2 ^ s)))]) := hsa.ren [(12, 500)]
  have hsb' : RetB Tryz.prog 155 [.d (u32s b), .d (.int .i64 s)] (lookB []) (.own 501 0 (b.length + 1) 56 1) (lookB [(501, .data 56 1 (eN .u32) 0 (padL (b.length + 1) (val b * 2 ^ s)))]) := hsb.ren [(12, 501)]
  clear hsa hsb
  have hV0l := padL_len (b.length + 1) (val b * 2 ^ s)
  have hU0l := padL_len (a.length + 1) (val a * 2 ^ s)
  have hVge : B ^ (b.length - 1) * (t * 2 ^ s) ≤ val b * 2 ^ s := by
    rw [hvb, Nat.add_mul, Nat.mul_assoc]; omega
  have hvl : (limbs (val b * 2 ^ s)).length = b.length := by
    refine Nat.le_antisymm (length_limbs_le hVlt) ?_
    have h5 := lt_pow_length (val b * 2 ^ s)
    refine Nat.le_of_not_lt fun h => ?_
    have h6 : B ^ (limbs (val b * 2 ^ s)).length ≤ B ^ (b.length - 1) := Nat.pow_le_pow_right (by decide) (by omega)
    have h7 : B ^ (b.length - 1) * 1 ≤ B ^ (b.length - 1) * (t * 2 ^ s) := Nat.mul_le_mul_left _ (Nat.mul_pos (by omega) hp)
    omega
  have hAlt : val a * 2 ^ s < B ^ a.length * 2 ^ s := Nat.mul_lt_mul_of_pos_right (val_lt wa) hp
  have h2s : 2 ^ s ≤ B := by rw [B_val]; exact Nat.pow_le_pow_right (show 0 < 2 by decide) (show s ≤ 32 by omega)
  have hU0v : val (padL (a.length + 1) (val a * 2 ^ s)) = val a * 2 ^ s := by
    rw [padL_val, Nat.mod_eq_of_lt]
    exact Nat.lt_of_lt_of_le hAlt (Nat.mul_le_mul_left _ h2s)
  have hU0w := padL_wf (a.length + 1) (val a * 2 ^ s)
  have hwv := wf_limbs (val b * 2 ^ s)
  have hvv := val_limbs (val b * 2 ^ s)
  have hstart : DivInv (val a * 2 ^ s) (val b * 2 ^ s) b.length (padL (a.length + 1) (val a * 2 ^ s)) (List.replicate (a.length - b.length + 1) 0) (a.length - b.length + 1) := by
    refine ⟨hU0w, wf_replicate _, ?_, ?_⟩
    · rw [List.drop_eq_nil_of_le (by simp), hU0v]; simp [val]
    · have h1 : val (padL (a.length + 1) (val a * 2 ^ s)) = val ((padL (a.length + 1) (val a * 2 ^ s)).take (a.length - b.length + 1)) + B ^ (a.length - b.length + 1) * val ((padL (a.length + 1) (val a * 2 ^ s)).drop (a.length - b.length + 1)) := by
        conv => lhs; rw [← List.take_append_drop (a.length - b.length + 1) (padL _ _), val_append]
        rw [List.length_take, Nat.min_eq_left (by omega)]
      rw [hU0v] at h1
      generalize val ((padL (a.length + 1) (val a * 2 ^ s)).drop (a.length - b.length + 1)) = w at *
      have h2 : B ^ (a.length - b.length + 1) * w < B ^ (a.length - b.length + 1) * (B ^ (b.length - 1) * 2 ^ s) := by
        rw [← Nat.mul_assoc, ← Nat.pow_add, show a.length - b.length + 1 + (b.length - 1) = a.length by omega]
        omega
      have h3 := Nat.lt_of_mul_lt_mul_left h2
      have h4 : B ^ (b.length - 1) * (1 * 2 ^ s) ≤ B ^ (b.length - 1) * (t * 2 ^ s) := Nat.mul_le_mul_left _ (Nat.mul_le_mul_right _ (by omega))
      rw [Nat.one_mul] at h4
      omega
  have hend : ∀ U Q, DivInv (val a * 2 ^ s) (val b * 2 ^ s) b.length U Q 0 → val Q = val a / val b ∧ val U / 2 ^ s = val a % val b ∧ val a % val b < B ^ b.length := fun U Q h => ⟨(h.done hb0).1, (h.done hb0).2, Nat.lt_trans (Nat.mod_lt _ hb0) (val_lt wb)⟩
  have hA : val a * 2 ^ s = val a * 2 ^ s := rfl
  generalize hV0 : padL (b.length + 1) (val b * 2 ^ s) = V0 at *
  generalize hU0 : padL (a.length + 1) (val a * 2 ^ s) = U0 at *
  generalize hv : limbs (val b * 2 ^ s) = v at *
  rw [← ht, show b.length - 1 = ((b.length : Int) - 1).toNat by omega] at hlz
  generalize hVV : val b * 2 ^ s = V at *
  generalize hAA : val a * 2 ^ s = A at *
  refine ret_of_awp tab Tryz.func143 rfl rfl (Nat.le_of_ble_eq_true rfl) (fun w0 F0 => ?_)
  repeat' (first | refine wG ?_ | refine wD [500] hsa' ?_ | refine wD [501] hsb' ?_ | refine wC hlz ?_ | refine wC htr ?_ | refine rg 7 30 ?_ | refine rg 16 18 ?_ | refine wS ?_ ?_ <;> intro _ | refine finG ?_)
  have hm : ((a.length : Int) - b.length + 1).toNat = a.length - b.length + 1 := by omega
  rw [hm]
  obtain ⟨m, hmm⟩ : ∃ m, a.length - b.length + 1 = m := ⟨_, rfl⟩
  rw [hmm] at hstart hm ⊢
  generalize b.length = n at *
  obtain ⟨k, rfl⟩ : ∃ k, n = k + 2 := ⟨n - 2, by omega⟩
  change B ^ (k + 1) * _ ≤ _ at hVge
  have hstart0 := hstart
  clear hstart
  have hstart := Hid.mk hstart0
  have hend0 := hend
  clear hend
  have hend := Hid.mk hend0
  clear hend0
  have hVge' : B ^ (k + 1) ≤ V := by
    have : B ^ (k + 1) * 1 ≤ B ^ (k + 1) * (t * 2 ^ s) := Nat.mul_le_mul_left _ (Nat.mul_pos (by omega) hp)
    omega
  clear hstart0 hlz hb2 htB htop hts hvb hp hV0l hVlt hVge hAlt hU0v h2s hm hV0 hU0 ht hv hsa' hsb' htr hA hVV hAA hb0
  refine awp_loop3 (fun (jj : Nat) (U Q : List Nat) => ([(4, .own 34 0 m 56 1), (6, .d (.int .i64 s)), (7, .d (.int .i64 (k + 2 : Nat))), (8, .own 500 0 (a.length + 1) 56 1), (9, .d (u32s v)), (10, .d (.int .i64 ((jj : Int) - 1)))], [(500, .data 56 1 (eN .u32) 0 U), (34, .data 56 1 (eN .u32) 0 Q)])) (fun jj U Q => U.length = a.length + 1 ∧ Q.length = m ∧ jj ≤ m ∧ DivInv A V (k + 2) U Q jj) (fun jj U Q => jj) m U0 (List.replicate m 0) ⟨hU0l, by simp, Nat.le_refl _, hstart.out⟩ ⟨rfl, rfl, rfl, rfl, rfl, rfl, rfl⟩ ⟨rfl, rfl, trivial⟩ (fun jj U Q h => ?_)
  obtain ⟨i1, i2, i3, i4⟩ := h
  clear hstart hU0l hU0w U0 V0
  by_cases hj0 : jj = 0
  · subst hj0
    obtain ⟨e1, e2, e3⟩ := hend.out U Q i4
    have wQ := i4.wQ
    have wU := i4.wU
    have htq := natural_trimmed Q (by omega)
    rw [trimL_limbs wQ, e1] at htq
    have kq := Hid.mk (And.intro e2 e3)
    clear e1 e2 e3 i4 hvl hwv hVge' hV0' hvv
    repeat' (first | refine wG ?_ | refine rg 7 30 ?_ | refine rg 16 18 ?_ | refine wS ?_ ?_ <;> intro _ | refine finG ?_)
    refine awp_loop2 (fun (i : Nat) (R : List Nat) => ([(4, .own 34 0 m 56 1), (5, .own 100 0 (k + 2) 56 1), (6, .d (.int .i64 s)), (8, .own 500 0 (a.length + 1) 56 1), (102, .d (.int .i64 (k + 2 : Nat))), (103, .d (.int .i64 i))], [(500, .data 56 1 (eN .u32) 0 U), (34, .data 56 1 (eN .u32) 0 Q), (100, .data 56 1 (eN .u32) 0 R)])) (fun i R => R.length = k + 2 ∧ i ≤ k + 2 ∧ WF R ∧ val (R.take i) = val U / 2 ^ s % B ^ i) (fun i R => k + 2 - i) 0 (List.replicate (k + 2) 0) ⟨by simp, by omega, wf_replicate _, by simp [Nat.mod_one, val]⟩ ⟨rfl, rfl, rfl, rfl, rfl, rfl, rfl⟩ ⟨rfl, rfl, rfl, trivial⟩ (fun i R h => ?_)
    obtain ⟨j1, j2, j3, j4⟩ := h
    by_cases hin : i < k + 2
    · have hs := shr_limb wU (show s ≤ 32 by omega) (show i + 1 < U.length by omega)
      have kp := Hid.mk (And.intro j4 hs)
      have go := wU.getD i
      have gp := wU.getD (i + 1)
      rw [B_val] at go gp
      clear j4 hs
      repeat' (first | refine wG ?_ | refine rg 7 30 ?_ | refine rg 16 18 ?_ | refine wS ?_ ?_ <;> intro _ | refine finG ?_)
      have hor := or_word (a := U.getD (i + 1) 0) go
      have hlb : val U / 2 ^ s / B ^ i % B < B := Nat.mod_lt _ (by decide)
      refine ⟨i + 1, R.set i (val U / 2 ^ s / B ^ i % B), ⟨by simpa using j1, by omega, j3.set _ hlb, ?_⟩, by omega, ⟨rfl, rfl, rfl, rfl, rfl, iv (by omega), rfl⟩, rfl, rfl, blkEq ?_, trivial⟩
      · rw [val_take_set _ _ _ (by omega), kp.out.1, Nat.pow_succ, Nat.mod_mul]
      · rw [hor, shr_cast, kp.out.2]
    · have : i = k + 2 := by omega
      subst this
      rw [List.take_of_length_le (by omega), kq.out.1, Nat.mod_eq_of_lt kq.out.2] at j4
      have htr := natural_trimmed R (by omega)
      rw [trimL_limbs j3, j4] at htr
      repeat' (first | refine wG ?_ | refine wC htq ?_ | refine wC htr ?_ | refine rg 7 30 ?_ | refine rg 16 18 ?_ | refine wS ?_ ?_ <;> intro _ | refine finG ?_)
      rfl
  · obtain ⟨j, rfl⟩ : ∃ j, jj = j + 1 := ⟨jj - 1, by omega⟩
    obtain ⟨g1, g2, g3, g4⟩ := i4.guess hvv hwv hvl hVge' (by omega)
    obtain ⟨x, hx⟩ : ∃ x, est B ((U.getD (j + k + 2) 0 * B + U.getD (j + k + 1) 0) * B + U.getD (j + k) 0) (v.getD (k + 1) 0 * B + v.getD k 0) = x := ⟨_, rfl⟩
    have hxB : x < 4294967296 := by rw [← hx]; exact est_lt (by decide) _ _
    rw [hx] at g3 g4
    have e2 : j + k + 2 = ((((j + 1 : Nat) : Int) - 1) + (k + 2 : Nat)).toNat := by omega
    have e1 : j + k + 1 = ((((j + 1 : Nat) : Int) - 1) + (k + 2 : Nat) - 1).toNat := by omega
    have e0 : j + k = ((((j + 1 : Nat) : Int) - 1) + (k + 2 : Nat) - 2).toNat := by omega
    have f1 : k + 1 = (((k + 2 : Nat) : Int) - 1).toNat := by omega
    have f0 : k = (((k + 2 : Nat) : Int) - 2).toNat := by omega
    have gg : Ret Tryz.prog 156 [.int .u32 (U.getD ((((j + 1 : Nat) : Int) - 1) + (k + 2 : Nat)).toNat 0), .int .u32 (U.getD ((((j + 1 : Nat) : Int) - 1) + (k + 2 : Nat) - 1).toNat 0), .int .u32 (U.getD ((((j + 1 : Nat) : Int) - 1) + (k + 2 : Nat) - 2).toNat 0), .int .u32 (v.getD (((k + 2 : Nat) : Int) - 1).toNat 0), .int .u32 (v.getD (((k + 2 : Nat) : Int) - 2).toNat 0)] (· = .int .u64 x) := by
      rw [← e2, ← e1, ← e0, ← f1, ← f0]
      exact natural_guess _ _ _ _ _ _ _ rfl hx.symm g1 (i4.wU.getD (j + k + 1)) (i4.wU.getD (j + k)) (hwv.getD (k + 1)) (hwv.getD k) g2
    have hVlt : V < B ^ (k + 2) := by have := val_lt hwv; rwa [hvv, hvl] at this
    have hVlt3 : V < B ^ (k + 3) := Nat.lt_of_lt_of_le hVlt (Nat.pow_le_pow_right (by decide) (by omega))
    have hstep := i4.step hVlt hV0' (show j + (k + 2) + 1 ≤ U.length by omega) (show j < Q.length by omega)
    change _ < _ ∧ val ((U.drop j).take (k + 3)) / V < B ∧ DivInv A V (k + 2) (mid U j (padL (k + 3) (val ((U.drop j).take (k + 3)) % V))) (Q.set j (val ((U.drop j).take (k + 3)) / V)) j at hstep
    obtain ⟨s1, s2, s3⟩ := hstep
    have hred := natural_reduce U v j (k + 3) x i4.wU hwv (by omega) (by omega) (by omega) hxB
    have hdig := digit_done (W := val ((U.drop j).take (k + 3))) (V := V) (g := x) (L := k + 3) hV0' (one_of g3 g4) hVlt3
    have hmv := fun y => mid_win (U := U) (w := padL (k + 3) y) (j := j) (by omega)
    have hmm2 := fun y z => mid_mid (U := U) (w := padL (k + 3) y) (x := padL (k + 3) z) (j := j) (by rw [padL_len]; omega) (by rw [padL_len, padL_len])
    have hml := fun y => mid_len (U := U) (w := padL (k + 3) y) (j := j) (by rw [padL_len]; omega)
    have hmw := fun y => mid_wf (j := j) i4.wU (padL_wf (k + 3) y)
    have hres := fun y => natural_restore (mid U j (padL (k + 3) y)) v j (k + 3) (hmw y) hwv (by rw [hml]; omega) (by rw [hml]; omega) (by omega)
    simp only [padL_len] at hmv
    rw [hvv] at hred
    simp only [hmv, hmm2, hvv, padL_val] at hres
    clear hmv hmm2 hmw
    have p0 : j = plus0 0 (((j + 1 : Nat) : Int) - 1).toNat := by rw [plus0_eq]; omega
    have p1 : k + 3 = ((((j + 1 : Nat) : Int) - 1) + (k + 2 : Nat) + 1).toNat - (((j + 1 : Nat) : Int) - 1).toNat := by omega
    generalize hW : val ((U.drop j).take (k + 3)) = W at *
    by_cases hlt : W < x * V
    · simp only [if_pos hlt, decide_eq_true hlt] at hred hdig
      have hres := hres (W + B ^ (k + 3) - x * V)
      have hWl : W < B ^ (k + 3) := by
        have := val_lt ((i4.wU.drop j).take (k + 3))
        rwa [show ((U.drop j).take (k + 3)).length = k + 3 by simp; omega, hW] at this
      rw [Nat.mod_eq_of_lt (show W + B ^ (k + 3) - x * V < B ^ (k + 3) by omega), hdig.1] at hres
      have hred : RetB Tryz.prog 157 [.own 500 (plus0 0 (((j + 1 : Nat) : Int) - 1).toNat) (((((j + 1 : Nat) : Int) - 1) + (k + 2 : Nat) + 1).toNat - (((j + 1 : Nat) : Int) - 1).toNat) 56 1, .d (u32s v), .d (.int .u64 x)] (lookB [(500, .data 56 1 (eN .u32) 0 U)]) (.d (.bool true)) (lookB [(500, .data 56 1 (eN .u32) 0 (mid U j (padL (k + 3) (W + B ^ (k + 3) - x * V))))]) := by
        rw [← p1, ← p0]; exact hred.ren [(1000, 500)]
      have hres : RetB Tryz.prog 158 [.own 500 (plus0 0 (((j + 1 : Nat) : Int) - 1).toNat) (((((j + 1 : Nat) : Int) - 1) + (k + 2 : Nat) + 1).toNat - (((j + 1 : Nat) : Int) - 1).toNat) 56 1, .d (u32s v)] (lookB [(500, .data 56 1 (eN .u32) 0 (mid U j (padL (k + 3) (W + B ^ (k + 3) - x * V))))]) (.tup []) (lookB [(500, .data 56 1 (eN .u32) 0 (mid U j (padL (k + 3) (W % V))))]) := by
        rw [← p1, ← p0]; exact hres.ren [(1000, 500)]
      have hml1 := hml (W + B ^ (k + 3) - x * V)
      have hml2 := hml (W % V)
      have hx0 : 0 < x := by rcases Nat.eq_zero_or_pos x with h | h; (· subst h; simp at hlt); exact h
      have kp := Hid.mk (And.intro s2 hdig.2)
      have kq := Hid.mk hVge'
      clear hdig s1 s2 hWl hlt hVlt hVlt3 g1 g2 g3 g4 hVge' hV0' hx e2 e1 e0 f1 f0 hvv p0 p1 hml
      repeat' (first | refine wG ?_ | refine wD [600] hred ?_ | refine wD [600] hres ?_ | refine wC gg ?_ | refine rg 7 30 ?_ | refine rg 16 18 ?_ | refine wS ?_ ?_ <;> intro _ | refine finG ?_)
      refine ⟨j, mid U j (padL (k + 3) (W % V)), Q.set j (W / V), ⟨by rw [hml2]; exact i1, by simpa using i2, by omega, s3⟩, by omega, ⟨rfl, rfl, rfl, rfl, rfl, iv (by omega), rfl⟩, rfl, blkEq ?_, trivial⟩
      rw [show (((j + 1 : Nat) : Int) - 1).toNat = j by omega, ← kp.out.2, show ((x : Int) - 1).toNat = x - 1 by omega]
    · simp only [if_neg hlt, decide_eq_false hlt] at hred hdig
      rw [hdig.1] at hred
      have hred : RetB Tryz.prog 157 [.own 500 (plus0 0 (((j + 1 : Nat) : Int) - 1).toNat) (((((j + 1 : Nat) : Int) - 1) + (k + 2 : Nat) + 1).toNat - (((j + 1 : Nat) : Int) - 1).toNat) 56 1, .d (u32s v), .d (.int .u64 x)] (lookB [(500, .data 56 1 (eN .u32) 0 U)]) (.d (.bool false)) (lookB [(500, .data 56 1 (eN .u32) 0 (mid U j (padL (k + 3) (W % V))))]) := by
        rw [← p1, ← p0]; exact hred.ren [(1000, 500)]
      have hml2 := hml (W % V)
      have kp := Hid.mk (And.intro s2 hdig.2)
      have kq := Hid.mk hVge'
      clear hdig s1 s2 hlt hVlt hVlt3 g1 g2 g3 g4 hVge' hV0' hx e2 e1 e0 f1 f0 hvv p0 p1 hml
      repeat' (first | refine wG ?_ | refine wD [600] hred ?_ | refine wC gg ?_ | refine rg 7 30 ?_ | refine rg 16 18 ?_ | refine wS ?_ ?_ <;> intro _ | refine finG ?_)
      refine ⟨j, mid U j (padL (k + 3) (W % V)), Q.set j (W / V), ⟨by rw [hml2]; exact i1, by simpa using i2, by omega, s3⟩, by omega, ⟨rfl, rfl, rfl, rfl, rfl, iv (by omega), rfl⟩, rfl, blkEq ?_, trivial⟩
      rw [show (((j + 1 : Nat) : Int) - 1).toNat = j by omega, kp.out.2]
end Go.Proofs.YtoppaphffnojdaaGreat

/-
  Square roots of whole numbers by Newton's iteration; powers of 2 as lists of limbs. Conditions: as each says.
-/
namespace Go.Vw
def rtGo : Nat → Nat → Nat
  | 0, _ => 0
  | k + 1, a => if (k + 1) * (k + 1) ≤ a then k + 1 else rtGo k a
def rt (a : Nat) : Nat := rtGo a a
end Go.Vw

set_option maxHeartbeats 8000000
namespace Go.Proofs.YtoppaphffnojdaaGreat
open Go.Vw
attribute [local irreducible] awp awpL awpR

theorem natural_CompareN (m n : Nat) (hm : (limbs m).length < 10000000000) (hn : (limbs n).length < 10000000000) : Ret Tryz.prog 118 [u32s (limbs m), u32s (limbs n)] (· = .int .i64 (cmpN m n)) := by
  have := natural_Compare _ _ (wf_limbs m) (wf_limbs n) hm hn
  rw [nv_limbs, nv_limbs] at this
  exact this
theorem natural_AddN (m n : Nat) (hm : (limbs m).length < 1000000000000) (hn : (limbs n).length < 1000000000000) : Ret Tryz.prog 109 [u32s (limbs m), u32s (limbs n)] (· = u32s (limbs (m + n))) := by
  have := natural_Add _ _ (wf_limbs m) (wf_limbs n) hm hn
  rw [nv_limbs, nv_limbs] at this
  exact this
theorem natural_SubN (m n : Nat) (hm : (limbs m).length < 10000000000) (hn : (limbs n).length < 10000000000) : Ret Tryz.prog 114 [u32s (limbs m), u32s (limbs n)] (· = .tup [u32s (limbs (m - n)), .bool (decide (n ≤ m))]) := by
  have := natural_Sub _ _ (wf_limbs m) (wf_limbs n) hm hn
  rw [nv_limbs, nv_limbs] at this
  by_cases h : m < n
  · rw [if_pos h] at this
    rw [show m - n = 0 by omega, limbs_zero, decide_eq_false (by omega)]
    exact this
  · rw [if_neg h] at this
    rw [decide_eq_true (by omega)]
    exact this
theorem natural_MulN (m n : Nat) (hm : (limbs m).length < 10000000000) (hn : (limbs n).length < 10000000000) : Ret Tryz.prog 76 [u32s (limbs m), u32s (limbs n)] (· = u32s (limbs (m * n))) := by
  have := natural_Mul _ _ (wf_limbs m) (wf_limbs n) hm hn
  rw [nv_limbs, nv_limbs] at this
  exact this
theorem natural_valueN (n : Nat) (h : (limbs n).length < 1000000000000) : Ret Tryz.prog 111 [u32s (limbs n)] (· = u32s (limbs n)) := by
  have := natural_value (limbs n) (by omega)
  rw [takeL_of] at this
  exact this
theorem natural_UintN (n : Nat) (h : (limbs n).length < 1000000000) : Ret Tryz.prog 70 [u32s (limbs n)] (· = if n < 18446744073709551616 then .tup [.int .u64 n, .bool true] else .tup [.int .u64 0, .bool false]) := by
  have := natural_Uint (limbs n) (wf_limbs n) (by omega)
  rw [nv_limbs] at this
  exact this
theorem natural_shortN (m d : Nat) (hm : (limbs m).length < 1000000000) (hd : 0 < d) (hdB : d < 4294967296) : Ret Tryz.prog 142 [u32s (limbs m), .int .u32 d] (· = .tup [u32s (limbs (m / d)), .int .u32 (m % d : Nat)]) := by
  have := natural_short (limbs m) d (wf_limbs m) (by omega) hd hdB
  rw [val_limbs] at this
  exact this
theorem natural_DivN (m n : Nat) (hm : (limbs m).length < 1000000000) (hn : (limbs n).length < 1000000000) (h0 : n ≠ 0) : Ret Tryz.prog 113 [u32s (limbs m), u32s (limbs n)] (· = .tup [u32s (limbs (m / n)), u32s (limbs (m % n)), .bool true]) := by
  have hl : 0 < (limbs n).length := List.length_pos_iff.2 (mt limbs_eq_nil.1 h0)
  have h1 := natural_valueN m (by omega)
  have h2 := natural_valueN n (by omega)
  have hc := natural_CompareN m n (by omega) (by omega)
  have hcn := cmpN_neg m n
  by_cases hlt : m < n
  · have hcl := slices_Clone (limbs m) (by omega)
    rw [Nat.div_eq_of_lt hlt, Nat.mod_eq_of_lt hlt, limbs_zero]
    refine ret_of_awp tab Tryz.func113 rfl rfl (Nat.le_of_ble_eq_true rfl) (fun w0 F0 => ?_)
    repeat' (first | refine wG ?_ | refine wC h1 ?_ | refine wC h2 ?_ | refine wC hc ?_ | refine wC hcl ?_ | refine wS ?_ ?_ <;> intro _ | refine finTG ?_)
    exact leT
  · by_cases h1l : (limbs n).length = 1
    · have hnB := lt_pow_length n
      rw [h1l, Nat.pow_one, B_val] at hnB
      have hn1 := limbs_small (by rw [B_val]; exact hnB) h0
      have hs := natural_shortN m n hm (by omega) hnB
      have hmb : m % n < 4294967296 := Nat.lt_trans (Nat.mod_lt m (by omega)) hnB
      have hf := natural_FromUint (m % n : Nat) (m % n) rfl (by omega)
      rw [hn1] at h2 hc h1l ⊢
      refine ret_of_awp tab Tryz.func113 rfl rfl (Nat.le_of_ble_eq_true rfl) (fun w0 F0 => ?_)
      repeat' (first | refine wG ?_ | refine wC h1 ?_ | refine wC h2 ?_ | refine wC hc ?_ | refine wC hs ?_ | refine wC hf ?_ | refine wS ?_ ?_ <;> intro _ | refine finTG ?_)
      exact leT
    · have hle := limbs_len_mono (show n ≤ m by omega)
      have hd := natural_divide (limbs m) (limbs n) (wf_limbs m) (wf_limbs n) (valid_limbs m) (valid_limbs n) (by omega) (by omega) hle
      rw [val_limbs, val_limbs] at hd
      refine ret_of_awp tab Tryz.func113 rfl rfl (Nat.le_of_ble_eq_true rfl) (fun w0 F0 => ?_)
      repeat' (first | refine wG ?_ | refine wC h1 ?_ | refine wC h2 ?_ | refine wC hc ?_ | refine wC hd ?_ | refine wS ?_ ?_ <;> intro _ | refine finTG ?_)
      exact leT
theorem natural_GcdN (m n : Nat) (hm : (limbs m).length < 100000000) (hn : (limbs n).length < 100000000) : Ret Tryz.prog 117 [u32s (limbs m), u32s (limbs n)] (· = u32s (limbs (Nat.gcd m n))) := by
  have h1 := natural_valueN m (by omega)
  have h2 := natural_valueN n (by omega)
  refine ret_of_awp tab Tryz.func117 rfl rfl (Nat.le_of_ble_eq_true rfl) (fun w0 F0 => ?_)
  repeat' (first | refine wG ?_ | refine wC h1 ?_ | refine wC h2 ?_ | refine wS ?_ ?_ <;> intro _ | refine finG ?_)
  refine awp_loop2 (fun (x y : Nat) => ([(0, .d (u32s (limbs x))), (1, .d (u32s (limbs y)))], [])) (fun x y => (limbs x).length < 100000000 ∧ (limbs y).length < 100000000 ∧ Nat.gcd x y = Nat.gcd m n) (fun x y => y) m n ⟨by omega, by omega, rfl⟩ ⟨rfl, rfl, rfl⟩ trivial (fun x y hi => ?_)
  obtain ⟨h1, h2, h3⟩ := hi
  by_cases h0 : y = 0
  · subst h0
    have e : (limbs 0).length = 0 := by rw [limbs_zero]; rfl
    have hcl := slices_Clone (limbs x) (by omega)
    repeat' (first | refine wG ?_ | refine wC hcl ?_ | refine wS ?_ ?_ <;> intro _ | refine finG ?_)
    rw [← h3, Nat.gcd_zero_right]
  · have e : 0 < (limbs y).length := List.length_pos_iff.2 (mt limbs_eq_nil.1 h0)
    have hr := Nat.mod_lt x (Nat.pos_of_ne_zero h0)
    have hu := natural_UintN x (by omega)
    have hv := natural_UintN y (by omega)
    have hd := natural_DivN x y (by omega) (by omega) h0
    have fin : ∃ p q, ((limbs p).length < 100000000 ∧ (limbs q).length < 100000000 ∧ Nat.gcd p q = Nat.gcd m n) ∧ q < y ∧ p = y ∧ q = x % y := ⟨y, x % y, ⟨h2, len_bound (Nat.le_of_lt hr) h2, by rw [← h3, Nat.gcd_comm y, ← Nat.gcd_rec, Nat.gcd_comm]⟩, hr, rfl, rfl⟩
    by_cases hx : x < 18446744073709551616
    · rw [if_pos hx] at hu
      by_cases hy : y < 18446744073709551616
      · rw [if_pos hy] at hv
        have hg := natural_gcd x y hx hy
        have hgl : Nat.gcd x y < 18446744073709551616 := Nat.lt_of_le_of_lt (Nat.gcd_le_right x (by omega)) hy
        have hf := natural_FromUint (Nat.gcd x y : Nat) (Nat.gcd x y) rfl hgl
        repeat' (first | refine wG ?_ | refine wC hu ?_ | refine wC hv ?_ | refine wC hg ?_ | refine wC hf ?_ | refine wS ?_ ?_ <;> intro _ | refine finG ?_)
        rw [h3]
      · rw [if_neg hy] at hv
        repeat' (first | refine wG ?_ | refine wC hu ?_ | refine wC hv ?_ | refine wC hd ?_ | refine wS ?_ ?_ <;> intro _ | refine finG ?_)
        exact ⟨y, x % y, ⟨h2, len_bound (Nat.le_of_lt hr) h2, by rw [← h3, Nat.gcd_comm y, ← Nat.gcd_rec, Nat.gcd_comm]⟩, hr, ⟨rfl, rfl, rfl⟩, trivial⟩
    · rw [if_neg hx] at hu
      by_cases hy : y < 18446744073709551616
      · rw [if_pos hy] at hv
        repeat' (first | refine wG ?_ | refine wC hu ?_ | refine wC hv ?_ | refine wC hd ?_ | refine wS ?_ ?_ <;> intro _ | refine finG ?_)
        exact ⟨y, x % y, ⟨h2, len_bound (Nat.le_of_lt hr) h2, by rw [← h3, Nat.gcd_comm y, ← Nat.gcd_rec, Nat.gcd_comm]⟩, hr, ⟨rfl, rfl, rfl⟩, trivial⟩
      · rw [if_neg hy] at hv
        repeat' (first | refine wG ?_ | refine wC hu ?_ | refine wC hv ?_ | refine wC hd ?_ | refine wS ?_ ?_ <;> intro _ | refine finG ?_)
        exact ⟨y, x % y, ⟨h2, len_bound (Nat.le_of_lt hr) h2, by rw [← h3, Nat.gcd_comm y, ← Nat.gcd_rec, Nat.gcd_comm]⟩, hr, ⟨rfl, rfl, rfl⟩, trivial⟩
end Go.Proofs.YtoppaphffnojdaaGreat

set_option maxHeartbeats 8000000
namespace Go.Proofs.YtoppaphffnojdaaGreat
open Go.Vw
attribute [local irreducible] awp awpL awpR

end Go.Proofs.YtoppaphffnojdaaGreat
