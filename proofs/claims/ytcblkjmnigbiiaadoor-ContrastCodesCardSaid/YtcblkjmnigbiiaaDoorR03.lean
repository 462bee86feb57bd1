/-
  Contracts of functions of the program, walked with the abstract layer. Conditions: as each says.
-/
import Derived.Test.YtcblkjmnigbiiaaDoorR02
import Derived.KernelRfl
set_option autoImplicit false
set_option linter.unusedVariables false
namespace Go.Proofs.YtcblkjmnigbiiaaDoor
open Go.Ab
attribute [local irreducible] awp awpL

theorem len_bound {a b : Nat} (h : a ≤ b) {k : Nat} (hb : (limbs b).length < k) : (limbs a).length < k := Nat.lt_of_le_of_lt (limbs_len_mono h) hb
theorem len_double {a b k : Nat} (h : a ≤ 2 * b + 1) (hb : (limbs b).length < k) : (limbs a).length < k + 1 := by
  have h1 := ln_add b (b + 1)
  have h2 := ln_add1 (m := b) (n := b) (Nat.le_refl _) (Nat.le_refl _)
  have h3 := ln_add1 (m := b) (n := b + 1) (k := (limbs b).length + 1)
  have h4 : a < B ^ (ln b + 1) := by
    have := lt_ln b
    rw [Nat.pow_succ]
    have : B ^ ln b * 2 ≤ B ^ ln b * B := Nat.mul_le_mul_left _ (by decide)
    omega
  have := ln_le h4
  simp only [ln] at this
  omega

theorem lv {a b : Nat} (h : a = b) : V.d (u32s (limbs a)) = V.d (u32s (limbs b)) := by rw [h]
theorem ref01_bitI (m j : Nat) (i : Int) (h : i = j) (hm : (limbs m).length < 100000000000) (hi : j < 32 * (limbs m).length) : Ret Tryd.prog 72 [u32s (limbs m), .int .i64 i] (· = .int .u32 (m / 2 ^ j % 2 : Nat)) := by
  subst h; exact ref01_bit m j hm hi
/-- One step of the long division. -/
theorem div_step {x y n o : Nat} (h0 : n ≠ 0) (h : y = 2 * x + o) (ho : o ≤ 1) : (n ≤ 2 * (x % n) + o → 2 * (x % n) + o - n = y % n ∧ 2 * (x / n) + 1 = y / n) ∧ (¬ n ≤ 2 * (x % n) + o → 2 * (x % n) + o = y % n ∧ 2 * (x / n) + 0 = y / n) := by
  have hp := Nat.pos_of_ne_zero h0
  have hx := Nat.div_add_mod x n
  have hr := Nat.mod_lt x hp
  have e : y = n * (2 * (x / n)) + (2 * (x % n) + o) := by
    have : n * (2 * (x / n)) = 2 * (n * (x / n)) := by rw [Nat.mul_left_comm]
    omega
  constructor <;> intro hc
  · have e2 : y = (2 * (x % n) + o - n) + n * (2 * (x / n) + 1) := by rw [Nat.mul_add]; omega
    have l1 : 2 * (x % n) + o - n < n := by omega
    have h1 : y % n = 2 * (x % n) + o - n := by rw [e2, Nat.add_mul_mod_self_left]; exact Nat.mod_eq_of_lt l1
    have h2 : y / n = 2 * (x / n) + 1 := by rw [e2, Nat.add_mul_div_left _ _ hp, Nat.div_eq_of_lt l1, Nat.zero_add]
    exact ⟨h1.symm, h2.symm⟩
  · have e2 : y = (2 * (x % n) + o) + n * (2 * (x / n)) := by omega
    have l1 : 2 * (x % n) + o < n := by omega
    have h1 : y % n = 2 * (x % n) + o := by rw [e2, Nat.add_mul_mod_self_left]; exact Nat.mod_eq_of_lt l1
    have h2 : y / n = 2 * (x / n) := by rw [e2, Nat.add_mul_div_left _ _ hp, Nat.div_eq_of_lt l1, Nat.zero_add]
    exact ⟨h1.symm, h2.symm⟩
theorem ref01_DivN (m n : Nat) (hm : (limbs m).length < 100000000) (hn : (limbs n).length < 100000000) (h0 : n ≠ 0) : Ret Tryd.prog 52 [u32s (limbs m), u32s (limbs n)] (· = .tup [u32s (limbs (m / n)), u32s (limbs (m % n)), .bool true]) := by
  have hl : 0 < (limbs n).length := List.length_pos_iff.2 (mt limbs_eq_nil.1 h0)
  have hz := div_bits_zero m
  simp only [ln] at hz
  refine ret_of_awp tab Tryd.func52 rfl rfl (Nat.le_of_ble_eq_true rfl) (fun w0 F0 => ?_)
  repeat' (first
    | refine awp_seq ?_ | refine awp_region ?_ | refine awpL_then ?_ | refine awpL_in ?_
    | (refine isBin ?_; first | refine sShr tab rfl ?_ | refine sQuo tab rfl ?_ | refine sRem tab rfl ?_ | (first | refine sDec tab rfl (fun _ => ?_) (fun _ => ?_) | refine sNdec tab rfl (fun _ => ?_) (fun _ => ?_)) <;> (try (exfalso; first | omega | (rename_i hq; exact hq rfl) | (rename_i hq; exact Bool.noConfusion hq))) | refine sWrap tab rfl ?_ | refine sBool tab rfl (fun e => ?_) (fun e => ?_) <;> (first | (exfalso; exact Bool.noConfusion e) | (revert e; first | refine tt_in ?_ | refine ff_in ?_) | skip) | refine sStep tab rfl ?_)
    | (refine isConv ?_; first | refine sConv tab rfl ?_ | refine sConvR tab rfl rfl ?_ | refine sStep tab rfl ?_)
    | (refine isUn ?_; first | refine sNot tab rfl (fun e => ?_) (fun e => ?_) <;> (first | (exfalso; exact Bool.noConfusion e) | (revert e; first | refine tt_in ?_ | refine ff_in ?_) | skip) | refine sUn tab rfl ?_ | refine sUnR tab rfl rfl ?_ | refine sStep tab rfl ?_)
    | (refine isLoad ?_; first | refine sLdu tab rfl ((Nat.mul_one _).trans (Int.toNat_natCast _)) ?_ | refine sLdu tab rfl (Nat.mul_one _) ?_ | refine sStep tab rfl ?_)
    | (refine isSlice ?_; first | refine sTake tab rfl rfl ?_ | refine sDrop tab rfl rfl ?_ | refine sStep tab rfl ?_)
    | (refine isCallF ?_; first | refine awpL_callE rfl rfl rfl rfl rfl rfl (ref01_TakeN _ (by omega)) ?_ )
    | (refine isCall ?_; first | refine sApp tab rfl ?_ | refine sApp0 tab rfl ?_ | refine sStep tab rfl ?_)
    | (refine isMk ?_; first | refine sMk tab rfl (Int.toNat_natCast _) ?_ | refine sMk tab rfl rfl ?_ | refine sStep tab rfl ?_)
    | (refine isStore ?_; first | refine sSt tab rfl (Nat.mul_one _) ?_ | refine sStep tab rfl ?_)
    | (refine isOps ?_; refine sStep tab rfl ?_) | refine awp_block ?_ | refine awp_skip ?_ | (refine awp_exit ?_; show awp _ _ _ _)
    | (refine isCond ?_; refine awp_cond rfl (fun e => ?_) (fun e => ?_) <;> (first | (exfalso; exact Bool.noConfusion e) | (revert e; first | refine tt_in ?_ | refine ff_in ?_) | skip)) | refine awp_ret ⟨_, _, rfl, ok, ?_⟩)
  refine awp_nils 7 rfl ?_
  refine awp_nils 8 rfl ?_
  refine awp_loop1 (fun (k : Nat) => ([(0, .d (u32s (limbs m))), (1, .d (u32s (limbs n))), (7, .d (u32s (limbs (m / 2 ^ k / n)))), (8, .d (u32s (limbs (m / 2 ^ k % n)))), (9, .d (.int .i64 ((k : Int) - 1)))], [])) (fun k => k ≤ 32 * (limbs m).length) (fun k => k) (32 * (limbs m).length) (Nat.le_refl _) ⟨rfl, rfl, by rw [hz, Nat.zero_div, limbs_zero]; rfl, by rw [hz, Nat.zero_mod, limbs_zero]; rfl, iv (by simp), trivial⟩ trivial (fun k hi => ?_)
  have e1 : ((k : Int) - 1) = ((k - 1 : Nat) : Int) ∨ k = 0 := by omega
  have e2 := div_pow_step m k
  have hq : m / 2 ^ k ≤ m := Nat.div_le_self _ _
  have hq' : m / 2 ^ k / n ≤ m := Nat.le_trans (Nat.div_le_self _ _) hq
  have hr := Nat.mod_lt (m / 2 ^ k) (Nat.pos_of_ne_zero h0)
  have b1 := len_bound hq' hm
  have b2 := len_bound (Nat.le_of_lt hr) hn
  have b3 := len_double (a := 2 * (m / 2 ^ k % n) + m / 2 ^ (k - 1) % 2) (b := m / 2 ^ k % n) (by omega) b2
  have e3 : 0 < k → _ := fun hk => div_step (x := m / 2 ^ k) (y := m / 2 ^ (k - 1)) (o := m / 2 ^ (k - 1) % 2) h0 (e2 hk) (by omega)
  repeat' (first
    | refine awp_seq ?_ | refine awp_region ?_ | refine awpL_then ?_ | refine awpL_in ?_
    | (refine isBin ?_; first | refine sShr tab rfl ?_ | refine sQuo tab rfl ?_ | refine sRem tab rfl ?_ | (first | refine sDec tab rfl (fun _ => ?_) (fun _ => ?_) | refine sNdec tab rfl (fun _ => ?_) (fun _ => ?_)) <;> (try (exfalso; first | omega | (rename_i hq; exact hq rfl) | (rename_i hq; exact Bool.noConfusion hq))) | refine sWrap tab rfl ?_ | refine sBool tab rfl (fun e => ?_) (fun e => ?_) <;> (first | (exfalso; exact Bool.noConfusion e) | (revert e; first | refine tt_in ?_ | refine ff_in ?_) | skip) | refine sStep tab rfl ?_)
    | (refine isConv ?_; first | refine sConv tab rfl ?_ | refine sConvR tab rfl rfl ?_ | refine sStep tab rfl ?_)
    | (refine isUn ?_; first | refine sNot tab rfl (fun e => ?_) (fun e => ?_) <;> (first | (exfalso; exact Bool.noConfusion e) | (revert e; first | refine tt_in ?_ | refine ff_in ?_) | skip) | refine sUn tab rfl ?_ | refine sUnR tab rfl rfl ?_ | refine sStep tab rfl ?_)
    | (refine isLoad ?_; first | refine sLdu tab rfl ((Nat.mul_one _).trans (Int.toNat_natCast _)) ?_ | refine sLdu tab rfl (Nat.mul_one _) ?_ | refine sStep tab rfl ?_)
    | (refine isSlice ?_; first | refine sTake tab rfl rfl ?_ | refine sDrop tab rfl rfl ?_ | refine sStep tab rfl ?_)
    | (refine isCallF ?_; first | refine awpL_callE rfl rfl rfl rfl rfl rfl (ref01_bitI _ (k - 1) _ (by omega) (by omega) (by omega)) ?_ | refine awpL_callE rfl rfl rfl rfl rfl rfl (ref01_double _ _ (by omega) (by omega)) ?_ | refine awpL_callE rfl rfl rfl rfl rfl rfl (ref01_double _ 1 (by omega) (by omega)) ?_ | refine awpL_callE rfl rfl rfl rfl rfl rfl (ref01_double _ 0 (by omega) (by omega)) ?_ | refine awpL_callE rfl rfl rfl rfl rfl rfl (ref01_SubN _ _ (by omega) (by omega)) ?_ )
    | (refine isCall ?_; first | refine sApp tab rfl ?_ | refine sApp0 tab rfl ?_ | refine sStep tab rfl ?_)
    | (refine isMk ?_; first | refine sMk tab rfl (Int.toNat_natCast _) ?_ | refine sMk tab rfl rfl ?_ | refine sStep tab rfl ?_)
    | (refine isStore ?_; first | refine sSt tab rfl (Nat.mul_one _) ?_ | refine sStep tab rfl ?_)
    | (refine isOps ?_; refine sStep tab rfl ?_) | refine awp_block ?_ | refine awp_skip ?_ | (refine awp_exit ?_; show awp _ _ _ _)
    | (refine isCond ?_; refine awp_cond rfl (fun e => ?_) (fun e => ?_) <;> (first | (exfalso; exact Bool.noConfusion e) | (revert e; first | refine tt_in ?_ | refine ff_in ?_) | skip)) | refine awp_ret ⟨_, _, rfl, ok, ?_⟩)
  · rename_i hk
    obtain ⟨g1, g2⟩ := (e3 (by omega)).1 (of_decide_eq_true e)
    exact ⟨k - 1, by omega, by omega, ⟨rfl, rfl, lv g2, lv g1, iv (by omega), trivial⟩, trivial⟩
  · rename_i hk
    obtain ⟨g1, g2⟩ := (e3 (by omega)).2 (of_decide_eq_false e)
    exact ⟨k - 1, by omega, by omega, ⟨rfl, rfl, lv g2, lv g1, iv (by omega), trivial⟩, trivial⟩
  · have : k = 0 := by omega
    subst this
    show D.tup _ = D.tup _
    rw [Nat.pow_zero, Nat.div_one]; rfl

theorem ref01_Div0 (m : Nat) (hm : (limbs m).length < 100000000) : Ret Tryd.prog 52 [u32s (limbs m), u32s (limbs 0)] (· = .tup [u32s (limbs 0), u32s (limbs 0), .bool false]) := by
  have e : (limbs 0).length = 0 := by rw [limbs_zero]; rfl
  refine ret_of_awp tab Tryd.func52 rfl rfl (Nat.le_of_ble_eq_true rfl) (fun w0 F0 => ?_)
  repeat' (first
    | refine awp_seq ?_ | refine awp_region ?_ | refine awpL_then ?_ | refine awpL_in ?_
    | (refine isBin ?_; first | refine sShr tab rfl ?_ | refine sQuo tab rfl ?_ | refine sRem tab rfl ?_ | (first | refine sDec tab rfl (fun _ => ?_) (fun _ => ?_) | refine sNdec tab rfl (fun _ => ?_) (fun _ => ?_)) <;> (try (exfalso; first | omega | (rename_i hq; exact hq rfl) | (rename_i hq; exact Bool.noConfusion hq))) | refine sWrap tab rfl ?_ | refine sBool tab rfl (fun e => ?_) (fun e => ?_) <;> (first | (exfalso; exact Bool.noConfusion e) | (revert e; first | refine tt_in ?_ | refine ff_in ?_) | skip) | refine sStep tab rfl ?_)
    | (refine isConv ?_; first | refine sConv tab rfl ?_ | refine sConvR tab rfl rfl ?_ | refine sStep tab rfl ?_)
    | (refine isUn ?_; first | refine sNot tab rfl (fun e => ?_) (fun e => ?_) <;> (first | (exfalso; exact Bool.noConfusion e) | (revert e; first | refine tt_in ?_ | refine ff_in ?_) | skip) | refine sUn tab rfl ?_ | refine sUnR tab rfl rfl ?_ | refine sStep tab rfl ?_)
    | (refine isLoad ?_; first | refine sLdu tab rfl ((Nat.mul_one _).trans (Int.toNat_natCast _)) ?_ | refine sLdu tab rfl (Nat.mul_one _) ?_ | refine sStep tab rfl ?_)
    | (refine isSlice ?_; first | refine sTake tab rfl rfl ?_ | refine sDrop tab rfl rfl ?_ | refine sStep tab rfl ?_)
    | (refine isCallF ?_; first | refine awpL_callE rfl rfl rfl rfl rfl rfl (ref01_TakeN _ (by omega)) ?_ )
    | (refine isCall ?_; first | refine sApp tab rfl ?_ | refine sApp0 tab rfl ?_ | refine sStep tab rfl ?_)
    | (refine isMk ?_; first | refine sMk tab rfl (Int.toNat_natCast _) ?_ | refine sMk tab rfl rfl ?_ | refine sStep tab rfl ?_)
    | (refine isStore ?_; first | refine sSt tab rfl (Nat.mul_one _) ?_ | refine sStep tab rfl ?_)
    | (refine isOps ?_; refine sStep tab rfl ?_) | refine awp_block ?_ | refine awp_skip ?_ | (refine awp_exit ?_; show awp _ _ _ _)
    | (refine isCond ?_; refine awp_cond rfl (fun e => ?_) (fun e => ?_) <;> (first | (exfalso; exact Bool.noConfusion e) | (revert e; first | refine tt_in ?_ | refine ff_in ?_) | skip)) | refine awp_ret ⟨_, _, rfl, ok, ?_⟩)
  rw [limbs_zero]; rfl

theorem ref01_Gcd (a b : List Nat) (hla : a.length < 10000000) (hlb : b.length < 10000000) (wa : WF a) (wb : WF b) : Ret Tryd.prog 80 [u32s a, u32s b] (· = u32s (limbs (Nat.gcd (nv a) (nv b)))) := by
  have la := length_limbs_nv wa
  have lb := length_limbs_nv wb
  have ta := ref01_TakeV a wa (by omega)
  have tb := ref01_TakeV b wb (by omega)
  generalize nv a = m at *
  generalize nv b = n at *
  refine ret_of_awp tab Tryd.func80 rfl rfl (Nat.le_of_ble_eq_true rfl) (fun w0 F0 => ?_)
  repeat' (first
    | refine awp_seq ?_ | refine awp_region ?_ | refine awpL_then ?_ | refine awpL_in ?_
    | (refine isBin ?_; first | refine sShr tab rfl ?_ | refine sQuo tab rfl ?_ | refine sRem tab rfl ?_ | (first | refine sDec tab rfl (fun _ => ?_) (fun _ => ?_) | refine sNdec tab rfl (fun _ => ?_) (fun _ => ?_)) <;> (try (exfalso; first | omega | (rename_i hq; exact hq rfl) | (rename_i hq; exact Bool.noConfusion hq))) | refine sWrap tab rfl ?_ | refine sBool tab rfl (fun e => ?_) (fun e => ?_) <;> (first | (exfalso; exact Bool.noConfusion e) | (revert e; first | refine tt_in ?_ | refine ff_in ?_) | skip) | refine sStep tab rfl ?_)
    | (refine isConv ?_; first | refine sConv tab rfl ?_ | refine sConvR tab rfl rfl ?_ | refine sStep tab rfl ?_)
    | (refine isUn ?_; first | refine sNot tab rfl (fun e => ?_) (fun e => ?_) <;> (first | (exfalso; exact Bool.noConfusion e) | (revert e; first | refine tt_in ?_ | refine ff_in ?_) | skip) | refine sUn tab rfl ?_ | refine sUnR tab rfl rfl ?_ | refine sStep tab rfl ?_)
    | (refine isLoad ?_; first | refine sLdu tab rfl ((Nat.mul_one _).trans (Int.toNat_natCast _)) ?_ | refine sLdu tab rfl (Nat.mul_one _) ?_ | refine sStep tab rfl ?_)
    | (refine isSlice ?_; first | refine sTake tab rfl rfl ?_ | refine sDrop tab rfl rfl ?_ | refine sStep tab rfl ?_)
    | (refine isCallF ?_; first | refine awpL_callE rfl rfl rfl rfl rfl rfl (ta) ?_ | refine awpL_callE rfl rfl rfl rfl rfl rfl (tb) ?_ )
    | (refine isCall ?_; first | refine sApp tab rfl ?_ | refine sApp0 tab rfl ?_ | refine sStep tab rfl ?_)
    | (refine isMk ?_; first | refine sMk tab rfl (Int.toNat_natCast _) ?_ | refine sMk tab rfl rfl ?_ | refine sStep tab rfl ?_)
    | (refine isStore ?_; first | refine sSt tab rfl (Nat.mul_one _) ?_ | refine sStep tab rfl ?_)
    | (refine isOps ?_; refine sStep tab rfl ?_) | refine awp_block ?_ | refine awp_skip ?_ | (refine awp_exit ?_; show awp _ _ _ _)
    | (refine isCond ?_; refine awp_cond rfl (fun e => ?_) (fun e => ?_) <;> (first | (exfalso; exact Bool.noConfusion e) | (revert e; first | refine tt_in ?_ | refine ff_in ?_) | skip)) | refine awp_ret ⟨_, _, rfl, ok, ?_⟩)
  refine awp_loop2 (fun (x y : Nat) => ([(0, .d (u32s (limbs x))), (1, .d (u32s (limbs y)))], [])) (fun x y => (limbs x).length < 100000000 ∧ (limbs y).length < 100000000 ∧ Nat.gcd x y = Nat.gcd m n) (fun x y => y) m n ⟨by omega, by omega, rfl⟩ ⟨rfl, rfl, trivial⟩ trivial (fun x y hi => ?_)
  obtain ⟨h1, h2, h3⟩ := hi
  by_cases h0 : y = 0
  · subst h0
    have e : (limbs 0).length = 0 := by rw [limbs_zero]; rfl
    repeat' (first
      | refine awp_seq ?_ | refine awp_region ?_ | refine awpL_then ?_ | refine awpL_in ?_
      | (refine isBin ?_; first | refine sShr tab rfl ?_ | refine sQuo tab rfl ?_ | refine sRem tab rfl ?_ | (first | refine sDec tab rfl (fun _ => ?_) (fun _ => ?_) | refine sNdec tab rfl (fun _ => ?_) (fun _ => ?_)) <;> (try (exfalso; first | omega | (rename_i hq; exact hq rfl) | (rename_i hq; exact Bool.noConfusion hq))) | refine sWrap tab rfl ?_ | refine sBool tab rfl (fun e => ?_) (fun e => ?_) <;> (first | (exfalso; exact Bool.noConfusion e) | (revert e; first | refine tt_in ?_ | refine ff_in ?_) | skip) | refine sStep tab rfl ?_)
      | (refine isConv ?_; first | refine sConv tab rfl ?_ | refine sConvR tab rfl rfl ?_ | refine sStep tab rfl ?_)
      | (refine isUn ?_; first | refine sNot tab rfl (fun e => ?_) (fun e => ?_) <;> (first | (exfalso; exact Bool.noConfusion e) | (revert e; first | refine tt_in ?_ | refine ff_in ?_) | skip) | refine sUn tab rfl ?_ | refine sUnR tab rfl rfl ?_ | refine sStep tab rfl ?_)
      | (refine isLoad ?_; first | refine sLdu tab rfl ((Nat.mul_one _).trans (Int.toNat_natCast _)) ?_ | refine sLdu tab rfl (Nat.mul_one _) ?_ | refine sStep tab rfl ?_)
      | (refine isSlice ?_; first | refine sTake tab rfl rfl ?_ | refine sDrop tab rfl rfl ?_ | refine sStep tab rfl ?_)
      | (refine isCall ?_; first | refine sApp tab rfl ?_ | refine sApp0 tab rfl ?_ | refine sStep tab rfl ?_)
      | (refine isMk ?_; first | refine sMk tab rfl (Int.toNat_natCast _) ?_ | refine sMk tab rfl rfl ?_ | refine sStep tab rfl ?_)
      | (refine isStore ?_; first | refine sSt tab rfl (Nat.mul_one _) ?_ | refine sStep tab rfl ?_)
      | (refine isOps ?_; refine sStep tab rfl ?_) | refine awp_block ?_ | refine awp_skip ?_ | (refine awp_exit ?_; show awp _ _ _ _)
      | (refine isCond ?_; refine awp_cond rfl (fun e => ?_) (fun e => ?_) <;> (first | (exfalso; exact Bool.noConfusion e) | (revert e; first | refine tt_in ?_ | refine ff_in ?_) | skip)) | refine awp_ret ⟨_, _, rfl, ok, ?_⟩)
    rw [← h3, Nat.gcd_zero_right]; rfl
  · have e : 0 < (limbs y).length := List.length_pos_iff.2 (mt limbs_eq_nil.1 h0)
    repeat' (first
      | refine awp_seq ?_ | refine awp_region ?_ | refine awpL_then ?_ | refine awpL_in ?_
      | (refine isBin ?_; first | refine sShr tab rfl ?_ | refine sQuo tab rfl ?_ | refine sRem tab rfl ?_ | (first | refine sDec tab rfl (fun _ => ?_) (fun _ => ?_) | refine sNdec tab rfl (fun _ => ?_) (fun _ => ?_)) <;> (try (exfalso; first | omega | (rename_i hq; exact hq rfl) | (rename_i hq; exact Bool.noConfusion hq))) | refine sWrap tab rfl ?_ | refine sBool tab rfl (fun e => ?_) (fun e => ?_) <;> (first | (exfalso; exact Bool.noConfusion e) | (revert e; first | refine tt_in ?_ | refine ff_in ?_) | skip) | refine sStep tab rfl ?_)
      | (refine isConv ?_; first | refine sConv tab rfl ?_ | refine sConvR tab rfl rfl ?_ | refine sStep tab rfl ?_)
      | (refine isUn ?_; first | refine sNot tab rfl (fun e => ?_) (fun e => ?_) <;> (first | (exfalso; exact Bool.noConfusion e) | (revert e; first | refine tt_in ?_ | refine ff_in ?_) | skip) | refine sUn tab rfl ?_ | refine sUnR tab rfl rfl ?_ | refine sStep tab rfl ?_)
      | (refine isLoad ?_; first | refine sLdu tab rfl ((Nat.mul_one _).trans (Int.toNat_natCast _)) ?_ | refine sLdu tab rfl (Nat.mul_one _) ?_ | refine sStep tab rfl ?_)
      | (refine isSlice ?_; first | refine sTake tab rfl rfl ?_ | refine sDrop tab rfl rfl ?_ | refine sStep tab rfl ?_)
      | (refine isCallF ?_; first | refine awpL_callE rfl rfl rfl rfl rfl rfl (ref01_DivN _ _ (by omega) (by omega) h0) ?_ )
      | (refine isCall ?_; first | refine sApp tab rfl ?_ | refine sApp0 tab rfl ?_ | refine sStep tab rfl ?_)
      | (refine isMk ?_; first | refine sMk tab rfl (Int.toNat_natCast _) ?_ | refine sMk tab rfl rfl ?_ | refine sStep tab rfl ?_)
      | (refine isStore ?_; first | refine sSt tab rfl (Nat.mul_one _) ?_ | refine sStep tab rfl ?_)
      | (refine isOps ?_; refine sStep tab rfl ?_) | refine awp_block ?_ | refine awp_skip ?_ | (refine awp_exit ?_; show awp _ _ _ _)
      | (refine isCond ?_; refine awp_cond rfl (fun e => ?_) (fun e => ?_) <;> (first | (exfalso; exact Bool.noConfusion e) | (revert e; first | refine tt_in ?_ | refine ff_in ?_) | skip)) | refine awp_ret ⟨_, _, rfl, ok, ?_⟩)
    have hr := Nat.mod_lt x (Nat.pos_of_ne_zero h0)
    exact ⟨y, x % y, ⟨h2, len_bound (Nat.le_of_lt hr) h2, by rw [← h3, Nat.gcd_comm y, ← Nat.gcd_rec, Nat.gcd_comm]⟩, hr, ⟨rfl, rfl, trivial⟩, trivial⟩
theorem ref01_GcdN (m n : Nat) (hm : (limbs m).length < 10000000) (hn : (limbs n).length < 10000000) : Ret Tryd.prog 80 [u32s (limbs m), u32s (limbs n)] (· = u32s (limbs (Nat.gcd m n))) := by
  have := ref01_Gcd (limbs m) (limbs n) hm hn (wf_limbs m) (wf_limbs n)
  rw [nv_limbs, nv_limbs] at this
  exact this

theorem take_succ_eq {a b : List Nat} {i : Nat} (h : a.take i = b.take i) (h1 : i < a.length) (h2 : i < b.length) (e : a.getD i 0 = b.getD i 0) : a.take (i + 1) = b.take (i + 1) := by
  rw [List.take_add_one, List.take_add_one, h]
  simp [List.getD, h1, h2] at e
  simp [h1, h2, e]
theorem ref01_Same (a b : List Nat) (hla : a.length < 1000000000000) (hlb : b.length < 1000000000000) : Ret Tryd.prog 40 [u32s a, u32s b] (· = .bool (decide (a = b))) := by
  refine ret_of_awp tab Tryd.func40 rfl rfl (Nat.le_of_ble_eq_true rfl) (fun w0 F0 => ?_)
  repeat' (first
    | refine awp_seq ?_ | refine awp_region ?_ | refine awpL_then ?_ | refine awpL_in ?_
    | (refine isBin ?_; first | refine sShr tab rfl ?_ | refine sQuo tab rfl ?_ | refine sRem tab rfl ?_ | (first | refine sDec tab rfl (fun _ => ?_) (fun _ => ?_) | refine sNdec tab rfl (fun _ => ?_) (fun _ => ?_)) <;> (try (exfalso; first | omega | (rename_i hq; exact hq rfl) | (rename_i hq; exact Bool.noConfusion hq))) | refine sWrap tab rfl ?_ | refine sBool tab rfl (fun e => ?_) (fun e => ?_) <;> (first | (exfalso; exact Bool.noConfusion e) | (revert e; first | refine tt_in ?_ | refine ff_in ?_) | skip) | refine sStep tab rfl ?_)
    | (refine isConv ?_; first | refine sConv tab rfl ?_ | refine sConvR tab rfl rfl ?_ | refine sStep tab rfl ?_)
    | (refine isUn ?_; first | refine sNot tab rfl (fun e => ?_) (fun e => ?_) <;> (first | (exfalso; exact Bool.noConfusion e) | (revert e; first | refine tt_in ?_ | refine ff_in ?_) | skip) | refine sUn tab rfl ?_ | refine sUnR tab rfl rfl ?_ | refine sStep tab rfl ?_)
    | (refine isLoad ?_; first | refine sLdu tab rfl ((Nat.mul_one _).trans (Int.toNat_natCast _)) ?_ | refine sLdu tab rfl (Nat.mul_one _) ?_ | refine sStep tab rfl ?_)
    | (refine isSlice ?_; first | refine sTake tab rfl rfl ?_ | refine sDrop tab rfl rfl ?_ | refine sStep tab rfl ?_)
    | (refine isCall ?_; first | refine sApp tab rfl ?_ | refine sApp0 tab rfl ?_ | refine sStep tab rfl ?_)
    | (refine isMk ?_; first | refine sMk tab rfl (Int.toNat_natCast _) ?_ | refine sMk tab rfl rfl ?_ | refine sStep tab rfl ?_)
    | (refine isStore ?_; first | refine sSt tab rfl (Nat.mul_one _) ?_ | refine sStep tab rfl ?_)
    | (refine isOps ?_; refine sStep tab rfl ?_) | refine awp_block ?_ | refine awp_skip ?_ | (refine awp_exit ?_; show awp _ _ _ _)
    | (refine isCond ?_; refine awp_cond rfl (fun e => ?_) (fun e => ?_) <;> (first | (exfalso; exact Bool.noConfusion e) | (revert e; first | refine tt_in ?_ | refine ff_in ?_) | skip)) | refine awp_ret ⟨_, _, rfl, ok, ?_⟩)
  · rename_i h
    rw [decide_eq_false (fun e => h (by rw [e]))]; rfl
  rename_i h
  refine awp_loop1 (fun (i : Nat) => ([(0, .d (u32s a)), (1, .d (u32s b)), (5, .d (.int .i64 i))], [])) (fun i => i ≤ a.length ∧ a.take i = b.take i) (fun i => a.length - i) 0 ⟨by simp, by simp⟩ ⟨rfl, rfl, rfl, trivial⟩ trivial (fun i hi => ?_)
  obtain ⟨h1, h2⟩ := hi
  repeat' (first
    | refine awp_seq ?_ | refine awp_region ?_ | refine awpL_then ?_ | refine awpL_in ?_
    | (refine isBin ?_; first | refine sShr tab rfl ?_ | refine sQuo tab rfl ?_ | refine sRem tab rfl ?_ | (first | refine sDec tab rfl (fun _ => ?_) (fun _ => ?_) | refine sNdec tab rfl (fun _ => ?_) (fun _ => ?_)) <;> (try (exfalso; first | omega | (rename_i hq; exact hq rfl) | (rename_i hq; exact Bool.noConfusion hq))) | refine sWrap tab rfl ?_ | refine sBool tab rfl (fun e => ?_) (fun e => ?_) <;> (first | (exfalso; exact Bool.noConfusion e) | (revert e; first | refine tt_in ?_ | refine ff_in ?_) | skip) | refine sStep tab rfl ?_)
    | (refine isConv ?_; first | refine sConv tab rfl ?_ | refine sConvR tab rfl rfl ?_ | refine sStep tab rfl ?_)
    | (refine isUn ?_; first | refine sNot tab rfl (fun e => ?_) (fun e => ?_) <;> (first | (exfalso; exact Bool.noConfusion e) | (revert e; first | refine tt_in ?_ | refine ff_in ?_) | skip) | refine sUn tab rfl ?_ | refine sUnR tab rfl rfl ?_ | refine sStep tab rfl ?_)
    | (refine isLoad ?_; first | refine sLdu tab rfl ((Nat.mul_one _).trans (Int.toNat_natCast _)) ?_ | refine sLdu tab rfl (Nat.mul_one _) ?_ | refine sStep tab rfl ?_)
    | (refine isSlice ?_; first | refine sTake tab rfl rfl ?_ | refine sDrop tab rfl rfl ?_ | refine sStep tab rfl ?_)
    | (refine isCall ?_; first | refine sApp tab rfl ?_ | refine sApp0 tab rfl ?_ | refine sStep tab rfl ?_)
    | (refine isMk ?_; first | refine sMk tab rfl (Int.toNat_natCast _) ?_ | refine sMk tab rfl rfl ?_ | refine sStep tab rfl ?_)
    | (refine isStore ?_; first | refine sSt tab rfl (Nat.mul_one _) ?_ | refine sStep tab rfl ?_)
    | (refine isOps ?_; refine sStep tab rfl ?_) | refine awp_block ?_ | refine awp_skip ?_ | (refine awp_exit ?_; show awp _ _ _ _)
    | (refine isCond ?_; refine awp_cond rfl (fun e => ?_) (fun e => ?_) <;> (first | (exfalso; exact Bool.noConfusion e) | (revert e; first | refine tt_in ?_ | refine ff_in ?_) | skip)) | refine awp_ret ⟨_, _, rfl, ok, ?_⟩)
  · refine awp_region_mono tab mixed 8 (by kernel_rfl) (s1 := ?s1) ?run1 ?tail1
    case run1 =>
      repeat' (first
        | exact MRun.nil
        | refine mOff rfl rfl ?_ | refine mWrap rfl rfl rfl ?_ | refine mLdu rfl rfl rfl ((Nat.mul_one _).trans (Int.toNat_natCast _)) ?_ | refine mLdu rfl rfl rfl (Nat.mul_one _) ?_
        
        | refine mQuiet rfl rfl rfl ?_ | refine mLit rfl rfl rfl ?_)
    repeat' (first
      | refine awp_seq ?_ | refine awp_region ?_ | refine awpL_then ?_ | refine awpL_in ?_
      | (refine isBin ?_; first | refine sShr tab rfl ?_ | refine sQuo tab rfl ?_ | refine sRem tab rfl ?_ | (first | refine sDec tab rfl (fun _ => ?_) (fun _ => ?_) | refine sNdec tab rfl (fun _ => ?_) (fun _ => ?_)) <;> (try (exfalso; first | omega | (rename_i hq; exact hq rfl) | (rename_i hq; exact Bool.noConfusion hq))) | refine sWrap tab rfl ?_ | refine sBool tab rfl (fun e => ?_) (fun e => ?_) <;> (first | (exfalso; exact Bool.noConfusion e) | (revert e; first | refine tt_in ?_ | refine ff_in ?_) | skip) | refine sStep tab rfl ?_)
      | (refine isConv ?_; first | refine sConv tab rfl ?_ | refine sConvR tab rfl rfl ?_ | refine sStep tab rfl ?_)
      | (refine isUn ?_; first | refine sNot tab rfl (fun e => ?_) (fun e => ?_) <;> (first | (exfalso; exact Bool.noConfusion e) | (revert e; first | refine tt_in ?_ | refine ff_in ?_) | skip) | refine sUn tab rfl ?_ | refine sUnR tab rfl rfl ?_ | refine sStep tab rfl ?_)
      | (refine isLoad ?_; first | refine sLdu tab rfl ((Nat.mul_one _).trans (Int.toNat_natCast _)) ?_ | refine sLdu tab rfl (Nat.mul_one _) ?_ | refine sStep tab rfl ?_)
      | (refine isSlice ?_; first | refine sTake tab rfl rfl ?_ | refine sDrop tab rfl rfl ?_ | refine sStep tab rfl ?_)
      | (refine isCall ?_; first | refine sApp tab rfl ?_ | refine sApp0 tab rfl ?_ | refine sStep tab rfl ?_)
      | (refine isMk ?_; first | refine sMk tab rfl (Int.toNat_natCast _) ?_ | refine sMk tab rfl rfl ?_ | refine sStep tab rfl ?_)
      | (refine isStore ?_; first | refine sSt tab rfl (Nat.mul_one _) ?_ | refine sStep tab rfl ?_)
      | (refine isOps ?_; refine sStep tab rfl ?_) | refine awp_block ?_ | refine awp_skip ?_ | (refine awp_exit ?_; show awp _ _ _ _)
      | (refine isCond ?_; refine awp_cond rfl (fun e => ?_) (fun e => ?_) <;> (first | (exfalso; exact Bool.noConfusion e) | (revert e; first | refine tt_in ?_ | refine ff_in ?_) | skip)) | refine awp_ret ⟨_, _, rfl, ok, ?_⟩)
    · rename_i h3 h4
      rw [decide_eq_false (fun e => h4 (by rw [e]))]; rfl
    · rename_i h3 h4
      exact ⟨i + 1, ⟨by omega, take_succ_eq h2 (by omega) (by omega) (by omega)⟩, by omega, ⟨rfl, rfl, iv (by omega), trivial⟩, trivial⟩
  · rw [List.take_of_length_le (by omega), List.take_of_length_le (by omega)] at h2
    rw [decide_eq_true h2]; rfl
end Go.Proofs.YtcblkjmnigbiiaaDoor
