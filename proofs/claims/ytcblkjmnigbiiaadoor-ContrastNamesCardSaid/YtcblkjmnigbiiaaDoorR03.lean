/-
  Contracts of functions of the program, walked with the abstract layer. Conditions: as each says.
-/
import Derived.Test.YtcblkjmnigbiiaaDoorR02
set_option linter.unusedVariables false
set_option linter.unusedSimpArgs false
namespace Go.Proofs.YtcblkjmnigbiiaaDoor
open Go.Vw
attribute [local irreducible] awp awpL awpR

theorem len_bound {a b : Nat} (h : a ≤ b) {k : Nat} (hb : (limbs b).length < k) : (limbs a).length < k := Nat.lt_of_le_of_lt (limbs_len_mono h) hb
theorem len_double {a b k : Nat} (h : a ≤ 2 * b + 1) (hb : (limbs b).length < k) : (limbs a).length < k + 1 := by
  have h1 := ln_add b (b + 1)
  have h2 := ln_add1 (m := b) (n := b) (Nat.le_refl _) (Nat.le_refl _)
  have h3 := ln_add1 (m := b) (n := b + 1) (k := (limbs b).length + 1)
  have h4 : a < B ^ (ln b + 1) := by
    have := lt_ln b
    rw [Nat.pow_succ]
    have : B ^ ln b * 2 ≤ B ^ ln b * B := Nat.mul_le_mul_left _ (by decide)
    omega
  have := ln_le h4
  simp only [ln] at this
  omega

theorem lv {a b : Nat} (h : a = b) : V.d (u32s (limbs a)) = V.d (u32s (limbs b)) := by rw [h]
theorem ref01_bitI (m j : Nat) (i : Int) (h : i = j) (hm : (limbs m).length < 100000000000) (hi : j < 32 * (limbs m).length) : Ret Tryd.prog 72 [u32s (limbs m), .int .i64 i] (· = .int .u32 (m / 2 ^ j % 2 : Nat)) := by
  subst h; exact ref01_bit m j hm hi
/-- One step of the long division. -/
theorem div_step {x y n o : Nat} (h0 : n ≠ 0) (h : y = 2 * x + o) (ho : o ≤ 1) : (n ≤ 2 * (x % n) + o → 2 * (x % n) + o - n = y % n ∧ 2 * (x / n) + 1 = y / n) ∧ (¬ n ≤ 2 * (x % n) + o → 2 * (x % n) + o = y % n ∧ 2 * (x / n) + 0 = y / n) := by
  have hp := Nat.pos_of_ne_zero h0
  have hx := Nat.div_add_mod x n
  have hr := Nat.mod_lt x hp
  have e : y = n * (2 * (x / n)) + (2 * (x % n) + o) := by
    have : n * (2 * (x / n)) = 2 * (n * (x / n)) := by rw [Nat.mul_left_comm]
    omega
  constructor <;> intro hc
  · have e2 : y = (2 * (x % n) + o - n) + n * (2 * (x / n) + 1) := by rw [Nat.mul_add]; omega
    have l1 : 2 * (x % n) + o - n < n := by omega
    have h1 : y % n = 2 * (x % n) + o - n := by rw [e2, Nat.add_mul_mod_self_left]; exact Nat.mod_eq_of_lt l1
    have h2 : y / n = 2 * (x / n) + 1 := by rw [e2, Nat.add_mul_div_left _ _ hp, Nat.div_eq_of_lt l1, Nat.zero_add]
    exact ⟨h1.symm, h2.symm⟩
  · have e2 : y = (2 * (x % n) + o) + n * (2 * (x / n)) := by omega
    have l1 : 2 * (x % n) + o < n := by omega
    have h1 : y % n = 2 * (x % n) + o := by rw [e2, Nat.add_mul_mod_self_left]; exact Nat.mod_eq_of_lt l1
    have h2 : y / n = 2 * (x / n) := by rw [e2, Nat.add_mul_div_left _ _ hp, Nat.div_eq_of_lt l1, Nat.zero_add]
    exact ⟨h1.symm, h2.symm⟩
theorem ref01_DivN (m n : Nat) (hm : (limbs m).length < 100000000) (hn : (limbs n).length < 100000000) (h0 : n ≠ 0) : Ret Tryd.prog 52 [u32s (limbs m), u32s (limbs n)] (· = .tup [u32s (limbs (m / n)), u32s (limbs (m % n)), .bool true]) := by
  have hl : 0 < (limbs n).length := List.length_pos_iff.2 (mt limbs_eq_nil.1 h0)
  have hz := div_bits_zero m
  simp only [ln] at hz
  refine ret_of_awp tab Tryd.func52 rfl rfl (Nat.le_of_ble_eq_true rfl) (fun w0 F0 => ?_)
  repeat' (first
    | (show awpL _ _ _ _ _; first | refine goL ?_ | refine cl 51 tt rfl rfl rfl (hr := ref01_TakeN _ (by omega)) (k := ?_) | (refine gdLD rfl rfl (fun _ => ?_) (fun _ => ?_) <;> try (exfalso; omega)) | (refine gdLN rfl rfl (fun _ => ?_) (fun _ => ?_) <;> try (exfalso; omega)) | refine gdL rfl rfl (fun _ => ?_) (fun _ => ?_))
    | (show awp _ _ _ _; first | refine goA ?_ | (refine awp_condD rfl (fun _ => ?_) (fun _ => ?_) <;> try (exfalso; omega)) | (refine awp_condN rfl (fun _ => ?_) (fun _ => ?_) <;> try (exfalso; omega)) | refine awp_cond rfl (fun _ => ?_) (fun _ => ?_))
    | (show andThen _ _ _ _; first | refine goN ?_)
    | (show inBlock _ _ _ _; first | refine goB ?_)
    | (show awpR _ _ _ _ _ _; first | refine goR ?_ | refine clR 51 tt rfl rfl rfl (hr := ref01_TakeN _ (by omega)) (k := ?_) | (refine gdRD rfl rfl (fun _ => ?_) (fun _ => ?_) <;> try (exfalso; omega)) | (refine gdRN rfl rfl (fun _ => ?_) (fun _ => ?_) <;> try (exfalso; omega)) | refine gdR rfl rfl (fun _ => ?_) (fun _ => ?_))
    | (show retPost _ _ _ _ _; first | refine finF true rfl rfl sc ?_ | refine finF false rfl rfl sc ?_ | refine finN rfl rfl sc ?_ | refine finL true rfl rfl sc rfl (LeR.cons rfl leL LeR.nil) ?_ | refine finE true rfl rfl sc ?_ | refine finE false rfl rfl sc ?_))
  refine awp_nils 7 1 (eN .u32) 0 rfl ?_
  refine awp_nils 8 1 (eN .u32) 0 rfl ?_
  refine awp_loop1 (fun (k : Nat) => ([(0, .d (u32s (limbs m))), (1, .d (u32s (limbs n))), (7, .d (u32s (limbs (m / 2 ^ k / n)))), (8, .d (u32s (limbs (m / 2 ^ k % n)))), (9, .d (.int .i64 ((k : Int) - 1)))], [])) (fun k => k ≤ 32 * (limbs m).length) (fun k => k) (32 * (limbs m).length) (Nat.le_refl _) ⟨rfl, rfl, by rw [hz, Nat.zero_div, limbs_zero]; rfl, by rw [hz, Nat.zero_mod, limbs_zero]; rfl, iv (by simp), rfl⟩ trivial (fun k hi => ?_)
  have e1 : ((k : Int) - 1) = ((k - 1 : Nat) : Int) ∨ k = 0 := by omega
  have e2 := div_pow_step m k
  have hq : m / 2 ^ k ≤ m := Nat.div_le_self _ _
  have hq' : m / 2 ^ k / n ≤ m := Nat.le_trans (Nat.div_le_self _ _) hq
  have hr := Nat.mod_lt (m / 2 ^ k) (Nat.pos_of_ne_zero h0)
  have b1 := len_bound hq' hm
  have b2 := len_bound (Nat.le_of_lt hr) hn
  have b3 := len_double (a := 2 * (m / 2 ^ k % n) + m / 2 ^ (k - 1) % 2) (b := m / 2 ^ k % n) (by omega) b2
  have e3 : 0 < k → _ := fun hk => div_step (x := m / 2 ^ k) (y := m / 2 ^ (k - 1)) (o := m / 2 ^ (k - 1) % 2) h0 (e2 hk) (by omega)
  repeat' (first
    | (show awpL _ _ _ _ _; first | refine goL ?_ | refine cl 72 tt rfl rfl rfl (hr := ref01_bitI _ (k - 1) _ (by omega) (by omega) (by omega)) (k := ?_) | refine cl 71 tt rfl rfl rfl (hr := ref01_double _ _ (by omega) (by omega)) (k := ?_) | refine cl 71 tt rfl rfl rfl (hr := ref01_double _ 1 (by omega) (by omega)) (k := ?_) | refine cl 71 tt rfl rfl rfl (hr := ref01_double _ 0 (by omega) (by omega)) (k := ?_) | refine cl 65 tt rfl rfl rfl (hr := ref01_SubN _ _ (by omega) (by omega)) (k := ?_) | (refine gdLD rfl rfl (fun _ => ?_) (fun _ => ?_) <;> try (exfalso; omega)) | (refine gdLN rfl rfl (fun _ => ?_) (fun _ => ?_) <;> try (exfalso; omega)) | refine gdL rfl rfl (fun _ => ?_) (fun _ => ?_))
    | (show awp _ _ _ _; first | refine goA ?_ | (refine awp_condD rfl (fun _ => ?_) (fun _ => ?_) <;> try (exfalso; omega)) | (refine awp_condN rfl (fun _ => ?_) (fun _ => ?_) <;> try (exfalso; omega)) | refine awp_cond rfl (fun _ => ?_) (fun _ => ?_))
    | (show andThen _ _ _ _; first | refine goN ?_)
    | (show inBlock _ _ _ _; first | refine goB ?_)
    | (show awpR _ _ _ _ _ _; first | refine goR ?_ | refine clR 72 tt rfl rfl rfl (hr := ref01_bitI _ (k - 1) _ (by omega) (by omega) (by omega)) (k := ?_) | refine clR 71 tt rfl rfl rfl (hr := ref01_double _ _ (by omega) (by omega)) (k := ?_) | refine clR 71 tt rfl rfl rfl (hr := ref01_double _ 1 (by omega) (by omega)) (k := ?_) | refine clR 71 tt rfl rfl rfl (hr := ref01_double _ 0 (by omega) (by omega)) (k := ?_) | refine clR 65 tt rfl rfl rfl (hr := ref01_SubN _ _ (by omega) (by omega)) (k := ?_) | (refine gdRD rfl rfl (fun _ => ?_) (fun _ => ?_) <;> try (exfalso; omega)) | (refine gdRN rfl rfl (fun _ => ?_) (fun _ => ?_) <;> try (exfalso; omega)) | refine gdR rfl rfl (fun _ => ?_) (fun _ => ?_))
    | (show retPost _ _ _ _ _; first | refine finF true rfl rfl sc ?_ | refine finF false rfl rfl sc ?_ | refine finN rfl rfl sc ?_ | refine finL true rfl rfl sc rfl (LeR.cons rfl leL LeR.nil) ?_ | refine finT true rfl rfl sc ?_ | refine finT false rfl rfl sc ?_ | refine finE true rfl rfl sc ?_ | refine finE false rfl rfl sc ?_))
  · rename_i hk hc
    obtain ⟨g1, g2⟩ := (e3 (by omega)).1 hc
    exact ⟨k - 1, by omega, by omega, ⟨rfl, rfl, lv g2, lv g1, iv (by omega), rfl⟩, trivial⟩
  · rename_i hk hc
    obtain ⟨g1, g2⟩ := (e3 (by omega)).2 hc
    exact ⟨k - 1, by omega, by omega, ⟨rfl, rfl, lv g2, lv g1, iv (by omega), rfl⟩, trivial⟩
  · have : k = 0 := by omega
    subst this
    rw [Nat.pow_zero, Nat.div_one]; exact leT

theorem ref01_Div0 (m : Nat) (hm : (limbs m).length < 100000000) : Ret Tryd.prog 52 [u32s (limbs m), u32s (limbs 0)] (· = .tup [u32s (limbs 0), u32s (limbs 0), .bool false]) := by
  have e : (limbs 0).length = 0 := by rw [limbs_zero]; rfl
  refine ret_of_awp tab Tryd.func52 rfl rfl (Nat.le_of_ble_eq_true rfl) (fun w0 F0 => ?_)
  repeat' (first
    | (show awpL _ _ _ _ _; first | refine goL ?_ | refine cl 51 tt rfl rfl rfl (hr := ref01_TakeN _ (by omega)) (k := ?_) | (refine gdLD rfl rfl (fun _ => ?_) (fun _ => ?_) <;> try (exfalso; omega)) | (refine gdLN rfl rfl (fun _ => ?_) (fun _ => ?_) <;> try (exfalso; omega)) | refine gdL rfl rfl (fun _ => ?_) (fun _ => ?_))
    | (show awp _ _ _ _; first | refine goA ?_ | (refine awp_condD rfl (fun _ => ?_) (fun _ => ?_) <;> try (exfalso; omega)) | (refine awp_condN rfl (fun _ => ?_) (fun _ => ?_) <;> try (exfalso; omega)) | refine awp_cond rfl (fun _ => ?_) (fun _ => ?_))
    | (show andThen _ _ _ _; first | refine goN ?_)
    | (show inBlock _ _ _ _; first | refine goB ?_)
    | (show awpR _ _ _ _ _ _; first | refine goR ?_ | refine clR 51 tt rfl rfl rfl (hr := ref01_TakeN _ (by omega)) (k := ?_) | (refine gdRD rfl rfl (fun _ => ?_) (fun _ => ?_) <;> try (exfalso; omega)) | (refine gdRN rfl rfl (fun _ => ?_) (fun _ => ?_) <;> try (exfalso; omega)) | refine gdR rfl rfl (fun _ => ?_) (fun _ => ?_))
    | (show retPost _ _ _ _ _; first | refine finF true rfl rfl sc ?_ | refine finF false rfl rfl sc ?_ | refine finN rfl rfl sc ?_ | refine finL true rfl rfl sc rfl (LeR.cons rfl leL LeR.nil) ?_ | refine finT true rfl rfl sc ?_ | refine finT false rfl rfl sc ?_ | refine finE true rfl rfl sc ?_ | refine finE false rfl rfl sc ?_))
  rw [limbs_zero]; exact leT

theorem ref01_Gcd (a b : List Nat) (hla : a.length < 10000000) (hlb : b.length < 10000000) (wa : WF a) (wb : WF b) : Ret Tryd.prog 80 [u32s a, u32s b] (· = u32s (limbs (Nat.gcd (nv a) (nv b)))) := by
  have la := length_limbs_nv wa
  have lb := length_limbs_nv wb
  have ta := ref01_TakeV a wa (by omega)
  have tb := ref01_TakeV b wb (by omega)
  generalize nv a = m at *
  generalize nv b = n at *
  refine ret_of_awp tab Tryd.func80 rfl rfl (Nat.le_of_ble_eq_true rfl) (fun w0 F0 => ?_)
  repeat' (first
    | (show awpL _ _ _ _ _; first | refine goL ?_ | refine cl 51 tt rfl rfl rfl (hr := ta) (k := ?_) | refine cl 51 tt rfl rfl rfl (hr := tb) (k := ?_) | (refine gdLD rfl rfl (fun _ => ?_) (fun _ => ?_) <;> try (exfalso; omega)) | (refine gdLN rfl rfl (fun _ => ?_) (fun _ => ?_) <;> try (exfalso; omega)) | refine gdL rfl rfl (fun _ => ?_) (fun _ => ?_))
    | (show awp _ _ _ _; first | refine goA ?_ | (refine awp_condD rfl (fun _ => ?_) (fun _ => ?_) <;> try (exfalso; omega)) | (refine awp_condN rfl (fun _ => ?_) (fun _ => ?_) <;> try (exfalso; omega)) | refine awp_cond rfl (fun _ => ?_) (fun _ => ?_))
    | (show andThen _ _ _ _; first | refine goN ?_)
    | (show inBlock _ _ _ _; first | refine goB ?_)
    | (show awpR _ _ _ _ _ _; first | refine goR ?_ | refine clR 51 tt rfl rfl rfl (hr := ta) (k := ?_) | refine clR 51 tt rfl rfl rfl (hr := tb) (k := ?_) | (refine gdRD rfl rfl (fun _ => ?_) (fun _ => ?_) <;> try (exfalso; omega)) | (refine gdRN rfl rfl (fun _ => ?_) (fun _ => ?_) <;> try (exfalso; omega)) | refine gdR rfl rfl (fun _ => ?_) (fun _ => ?_))
    | (show retPost _ _ _ _ _; first | refine finF true rfl rfl sc ?_ | refine finF false rfl rfl sc ?_ | refine finN rfl rfl sc ?_ | refine finL true rfl rfl sc rfl (LeR.cons rfl leL LeR.nil) ?_ | refine finE true rfl rfl sc ?_ | refine finE false rfl rfl sc ?_))
  refine awp_loop2 (fun (x y : Nat) => ([(0, .d (u32s (limbs x))), (1, .d (u32s (limbs y)))], [])) (fun x y => (limbs x).length < 100000000 ∧ (limbs y).length < 100000000 ∧ Nat.gcd x y = Nat.gcd m n) (fun x y => y) m n ⟨by omega, by omega, rfl⟩ ⟨rfl, rfl, rfl⟩ trivial (fun x y hi => ?_)
  obtain ⟨h1, h2, h3⟩ := hi
  by_cases h0 : y = 0
  · subst h0
    have e : (limbs 0).length = 0 := by rw [limbs_zero]; rfl
    repeat' (first
      | (show awpL _ _ _ _ _; first | refine goL ?_ | (refine gdLD rfl rfl (fun _ => ?_) (fun _ => ?_) <;> try (exfalso; omega)) | (refine gdLN rfl rfl (fun _ => ?_) (fun _ => ?_) <;> try (exfalso; omega)) | refine gdL rfl rfl (fun _ => ?_) (fun _ => ?_))
      | (show awp _ _ _ _; first | refine goA ?_ | (refine awp_condD rfl (fun _ => ?_) (fun _ => ?_) <;> try (exfalso; omega)) | (refine awp_condN rfl (fun _ => ?_) (fun _ => ?_) <;> try (exfalso; omega)) | refine awp_cond rfl (fun _ => ?_) (fun _ => ?_))
      | (show andThen _ _ _ _; first | refine goN ?_)
      | (show inBlock _ _ _ _; first | refine goB ?_)
      | (show awpR _ _ _ _ _ _; first | refine goR ?_ | (refine gdRD rfl rfl (fun _ => ?_) (fun _ => ?_) <;> try (exfalso; omega)) | (refine gdRN rfl rfl (fun _ => ?_) (fun _ => ?_) <;> try (exfalso; omega)) | refine gdR rfl rfl (fun _ => ?_) (fun _ => ?_))
      | (show retPost _ _ _ _ _; first | refine finF true rfl rfl sc ?_ | refine finF false rfl rfl sc ?_ | refine finN rfl rfl sc ?_ | refine finL true rfl rfl sc rfl (LeR.cons rfl leL LeR.nil) ?_ | refine finE true rfl rfl sc ?_ | refine finE false rfl rfl sc ?_))
    rw [← h3, Nat.gcd_zero_right]
  · have e : 0 < (limbs y).length := List.length_pos_iff.2 (mt limbs_eq_nil.1 h0)
    repeat' (first
      | (show awpL _ _ _ _ _; first | refine goL ?_ | refine cl 52 tt rfl rfl rfl (hr := ref01_DivN _ _ (by omega) (by omega) h0) (k := ?_) | (refine gdLD rfl rfl (fun _ => ?_) (fun _ => ?_) <;> try (exfalso; omega)) | (refine gdLN rfl rfl (fun _ => ?_) (fun _ => ?_) <;> try (exfalso; omega)) | refine gdL rfl rfl (fun _ => ?_) (fun _ => ?_))
      | (show awp _ _ _ _; first | refine goA ?_ | (refine awp_condD rfl (fun _ => ?_) (fun _ => ?_) <;> try (exfalso; omega)) | (refine awp_condN rfl (fun _ => ?_) (fun _ => ?_) <;> try (exfalso; omega)) | refine awp_cond rfl (fun _ => ?_) (fun _ => ?_))
      | (show andThen _ _ _ _; first | refine goN ?_)
      | (show inBlock _ _ _ _; first | refine goB ?_)
      | (show awpR _ _ _ _ _ _; first | refine goR ?_ | refine clR 52 tt rfl rfl rfl (hr := ref01_DivN _ _ (by omega) (by omega) h0) (k := ?_) | (refine gdRD rfl rfl (fun _ => ?_) (fun _ => ?_) <;> try (exfalso; omega)) | (refine gdRN rfl rfl (fun _ => ?_) (fun _ => ?_) <;> try (exfalso; omega)) | refine gdR rfl rfl (fun _ => ?_) (fun _ => ?_))
      | (show retPost _ _ _ _ _; first | refine finF true rfl rfl sc ?_ | refine finF false rfl rfl sc ?_ | refine finN rfl rfl sc ?_ | refine finL true rfl rfl sc rfl (LeR.cons rfl leL LeR.nil) ?_ | refine finE true rfl rfl sc ?_ | refine finE false rfl rfl sc ?_))
    have hr := Nat.mod_lt x (Nat.pos_of_ne_zero h0)
    exact ⟨y, x % y, ⟨h2, len_bound (Nat.le_of_lt hr) h2, by rw [← h3, Nat.gcd_comm y, ← Nat.gcd_rec, Nat.gcd_comm]⟩, hr, ⟨rfl, rfl, rfl⟩, trivial⟩
theorem ref01_GcdN (m n : Nat) (hm : (limbs m).length < 10000000) (hn : (limbs n).length < 10000000) : Ret Tryd.prog 80 [u32s (limbs m), u32s (limbs n)] (· = u32s (limbs (Nat.gcd m n))) := by
  have := ref01_Gcd (limbs m) (limbs n) hm hn (wf_limbs m) (wf_limbs n)
  rw [nv_limbs, nv_limbs] at this
  exact this

theorem take_succ_eq {a b : List Nat} {i : Nat} (h : a.take i = b.take i) (h1 : i < a.length) (h2 : i < b.length) (e : a.getD i 0 = b.getD i 0) : a.take (i + 1) = b.take (i + 1) := by
  rw [List.take_add_one, List.take_add_one, h]
  simp [List.getD, h1, h2] at e
  simp [h1, h2, e]
theorem ref01_Same (a b : List Nat) (hla : a.length < 1000000000000) (hlb : b.length < 1000000000000) : Ret Tryd.prog 40 [u32s a, u32s b] (· = .bool (decide (a = b))) := by
  refine ret_of_awp tab Tryd.func40 rfl rfl (Nat.le_of_ble_eq_true rfl) (fun w0 F0 => ?_)
  repeat' (first
    | (show awpL _ _ _ _ _; first | refine goL ?_ | (refine gdLD rfl rfl (fun _ => ?_) (fun _ => ?_) <;> try (exfalso; omega)) | (refine gdLN rfl rfl (fun _ => ?_) (fun _ => ?_) <;> try (exfalso; omega)) | refine gdL rfl rfl (fun _ => ?_) (fun _ => ?_))
    | (show awp _ _ _ _; first | refine goA ?_ | refine awp_reg 6 8 mixed (by kernel_rfl) ?_ | (refine awp_condD rfl (fun _ => ?_) (fun _ => ?_) <;> try (exfalso; omega)) | (refine awp_condN rfl (fun _ => ?_) (fun _ => ?_) <;> try (exfalso; omega)) | refine awp_cond rfl (fun _ => ?_) (fun _ => ?_))
    | (show andThen _ _ _ _; first | refine goN ?_)
    | (show inBlock _ _ _ _; first | refine goB ?_)
    | (show awpR _ _ _ _ _ _; first | refine goR ?_ | (refine gdRD rfl rfl (fun _ => ?_) (fun _ => ?_) <;> try (exfalso; omega)) | (refine gdRN rfl rfl (fun _ => ?_) (fun _ => ?_) <;> try (exfalso; omega)) | refine gdR rfl rfl (fun _ => ?_) (fun _ => ?_))
    | (show retPost _ _ _ _ _; first | refine finF true rfl rfl sc ?_ | refine finF false rfl rfl sc ?_ | refine finN rfl rfl sc ?_ | refine finL true rfl rfl sc rfl (LeR.cons rfl leL LeR.nil) ?_ | refine finE true rfl rfl sc ?_ | refine finE false rfl rfl sc ?_))
  · rename_i h
    rw [decide_eq_false (fun e => h (by rw [e]))]
  rename_i h
  refine awp_loop1 (fun (i : Nat) => ([(0, .d (u32s a)), (1, .d (u32s b)), (5, .d (.int .i64 i))], [])) (fun i => i ≤ a.length ∧ a.take i = b.take i) (fun i => a.length - i) 0 ⟨by simp, by simp⟩ ⟨rfl, rfl, rfl, rfl⟩ trivial (fun i hi => ?_)
  obtain ⟨h1, h2⟩ := hi
  repeat' (first
    | (show awpL _ _ _ _ _; first | refine goL ?_ | (refine gdLD rfl rfl (fun _ => ?_) (fun _ => ?_) <;> try (exfalso; omega)) | (refine gdLN rfl rfl (fun _ => ?_) (fun _ => ?_) <;> try (exfalso; omega)) | refine gdL rfl rfl (fun _ => ?_) (fun _ => ?_))
    | (show awp _ _ _ _; first | refine goA ?_ | refine awp_reg 6 8 mixed (by kernel_rfl) ?_ | (refine awp_condD rfl (fun _ => ?_) (fun _ => ?_) <;> try (exfalso; omega)) | (refine awp_condN rfl (fun _ => ?_) (fun _ => ?_) <;> try (exfalso; omega)) | refine awp_cond rfl (fun _ => ?_) (fun _ => ?_))
    | (show andThen _ _ _ _; first | refine goN ?_)
    | (show inBlock _ _ _ _; first | refine goB ?_)
    | (show awpR _ _ _ _ _ _; first | refine goR ?_ | (refine gdRD rfl rfl (fun _ => ?_) (fun _ => ?_) <;> try (exfalso; omega)) | (refine gdRN rfl rfl (fun _ => ?_) (fun _ => ?_) <;> try (exfalso; omega)) | refine gdR rfl rfl (fun _ => ?_) (fun _ => ?_))
    | (show retPost _ _ _ _ _; first | refine finF true rfl rfl sc ?_ | refine finF false rfl rfl sc ?_ | refine finN rfl rfl sc ?_ | refine finL true rfl rfl sc rfl (LeR.cons rfl leL LeR.nil) ?_ | refine finE true rfl rfl sc ?_ | refine finE false rfl rfl sc ?_))
  · rename_i h3 h4
    rw [decide_eq_false (fun e => h4 (by rw [e]))]
  · rename_i h3 h4
    exact ⟨i + 1, ⟨by omega, take_succ_eq h2 (by omega) (by omega) (by omega)⟩, by omega, ⟨rfl, rfl, iv (by omega), rfl⟩, trivial⟩
  · rw [List.take_of_length_le (by omega), List.take_of_length_le (by omega)] at h2
    rw [decide_eq_true h2]
end Go.Proofs.YtcblkjmnigbiiaaDoor
