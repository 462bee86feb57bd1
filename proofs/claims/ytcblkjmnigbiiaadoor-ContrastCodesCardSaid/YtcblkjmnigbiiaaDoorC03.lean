/-
  Contracts of functions of the program, walked with the abstract layer. Conditions: as each says.
-/
import Derived.Test.YtcblkjmnigbiiaaDoorC02
import Derived.KernelRfl
set_option autoImplicit false
set_option linter.unusedVariables false
set_option linter.unusedSimpArgs false
namespace Go.Proofs.YtcblkjmnigbiiaaDoor
open Go.Ab
attribute [local irreducible] awp awpL

theorem natural_trimmed (l : List Nat) (hl : l.length < 1000000000000) : Ret Tryd.prog 83 [u32s l] (· = u32s (trimL l)) := by
  refine ret_of_awp tab Tryd.func83 rfl rfl (Nat.le_of_ble_eq_true rfl) (fun w0 F0 => ?_)
  repeat' (first
    | refine awp_seq ?_ | refine awp_region ?_ | refine awpL_then ?_ | refine awpL_in ?_
    | (refine isBin ?_; first | refine sShr tab rfl ?_ | refine sQuo tab rfl ?_ | refine sRem tab rfl ?_ | (first | refine sDec tab rfl (fun _ => ?_) (fun _ => ?_) | refine sNdec tab rfl (fun _ => ?_) (fun _ => ?_)) <;> (try (exfalso; first | omega | (rename_i hq; exact hq rfl) | (rename_i hq; exact Bool.noConfusion hq))) | refine sWrap tab rfl ?_ | refine sBool tab rfl (fun e => ?_) (fun e => ?_) <;> (first | (exfalso; exact Bool.noConfusion e) | (revert e; first | refine tt_in ?_ | refine ff_in ?_) | skip) | refine sStep tab rfl ?_)
    | (refine isConv ?_; first | refine sConv tab rfl ?_ | refine sConvR tab rfl rfl ?_ | refine sStep tab rfl ?_)
    | (refine isUn ?_; first | refine sNot tab rfl (fun e => ?_) (fun e => ?_) <;> (first | (exfalso; exact Bool.noConfusion e) | (revert e; first | refine tt_in ?_ | refine ff_in ?_) | skip) | refine sUn tab rfl ?_ | refine sUnR tab rfl rfl ?_ | refine sStep tab rfl ?_)
    | (refine isLoad ?_; first | refine sLdu tab rfl ((Nat.mul_one _).trans (Int.toNat_natCast _)) ?_ | refine sLdu tab rfl (Nat.mul_one _) ?_ | refine sStep tab rfl ?_)
    | (refine isSlice ?_; first | refine sTake tab rfl rfl ?_ | refine sDrop tab rfl rfl ?_ | refine sStep tab rfl ?_)
    | (refine isCall ?_; first | refine sApp tab rfl ?_ | refine sApp0 tab rfl ?_ | refine sStep tab rfl ?_)
    | (refine isMk ?_; first | refine sMk tab rfl (Int.toNat_natCast _) ?_ | refine sMk tab rfl rfl ?_ | refine sStep tab rfl ?_)
    | (refine isStore ?_; first | refine sSt tab rfl (Nat.mul_one _) ?_ | refine sStep tab rfl ?_)
    | (refine isOps ?_; refine sStep tab rfl ?_) | refine awp_block ?_ | refine awp_skip ?_ | (refine awp_exit ?_; show awp _ _ _ _)
    | (refine isCond ?_; refine awp_cond rfl (fun e => ?_) (fun e => ?_) <;> (first | (exfalso; exact Bool.noConfusion e) | (revert e; first | refine tt_in ?_ | refine ff_in ?_) | skip)) | refine awp_ret ⟨_, _, rfl, ok, ?_⟩)
  refine awp_loop1 (fun n : Nat => ([(0, .d (u32s l)), (3, .d (.int .i64 n))], [])) (fun n => n ≤ l.length ∧ trimL (l.take n) = trimL l) (fun n => n) l.length ⟨by omega, by simp⟩ ⟨rfl, rfl, trivial⟩ trivial (fun n hi => ?_)
  obtain ⟨h1, h2⟩ := hi
  have e : 0 < n → (l.take n).getD ((l.take n).length - 1) 0 = l.getD (n - 1) 0 := fun hn => by
    simp [List.getD, List.length_take, Nat.min_eq_left h1, List.getElem?_take, show n - 1 < n by omega, List.getElem?_eq_getElem (show n - 1 < l.length by omega)]
  have hlen : (l.take n).length = n := by simp; omega
  repeat' (first
    | refine awp_seq ?_ | refine awp_region ?_ | refine awpL_then ?_ | refine awpL_in ?_
    | (refine isBin ?_; first | refine sShr tab rfl ?_ | refine sQuo tab rfl ?_ | refine sRem tab rfl ?_ | (first | refine sDec tab rfl (fun _ => ?_) (fun _ => ?_) | refine sNdec tab rfl (fun _ => ?_) (fun _ => ?_)) <;> (try (exfalso; first | omega | (rename_i hq; exact hq rfl) | (rename_i hq; exact Bool.noConfusion hq))) | refine sWrap tab rfl ?_ | refine sBool tab rfl (fun e => ?_) (fun e => ?_) <;> (first | (exfalso; exact Bool.noConfusion e) | (revert e; first | refine tt_in ?_ | refine ff_in ?_) | skip) | refine sStep tab rfl ?_)
    | (refine isConv ?_; first | refine sConv tab rfl ?_ | refine sConvR tab rfl rfl ?_ | refine sStep tab rfl ?_)
    | (refine isUn ?_; first | refine sNot tab rfl (fun e => ?_) (fun e => ?_) <;> (first | (exfalso; exact Bool.noConfusion e) | (revert e; first | refine tt_in ?_ | refine ff_in ?_) | skip) | refine sUn tab rfl ?_ | refine sUnR tab rfl rfl ?_ | refine sStep tab rfl ?_)
    | (refine isLoad ?_; first | refine sLdu tab rfl ((Nat.mul_one _).trans (Int.toNat_natCast _)) ?_ | refine sLdu tab rfl (Nat.mul_one _) ?_ | refine sStep tab rfl ?_)
    | (refine isSlice ?_; first | refine sTake tab rfl rfl ?_ | refine sDrop tab rfl rfl ?_ | refine sStep tab rfl ?_)
    | (refine isCall ?_; first | refine sApp tab rfl ?_ | refine sApp0 tab rfl ?_ | refine sStep tab rfl ?_)
    | (refine isMk ?_; first | refine sMk tab rfl (Int.toNat_natCast _) ?_ | refine sMk tab rfl rfl ?_ | refine sStep tab rfl ?_)
    | (refine isStore ?_; first | refine sSt tab rfl (Nat.mul_one _) ?_ | refine sStep tab rfl ?_)
    | (refine isOps ?_; refine sStep tab rfl ?_) | refine awp_block ?_ | refine awp_skip ?_ | (refine awp_exit ?_; show awp _ _ _ _)
    | (refine isCond ?_; refine awp_cond rfl (fun e => ?_) (fun e => ?_) <;> (first | (exfalso; exact Bool.noConfusion e) | (revert e; first | refine tt_in ?_ | refine ff_in ?_) | skip)) | refine awp_ret ⟨_, _, rfl, ok, ?_⟩)
  · rename_i h3 h4
    refine ⟨n - 1, ⟨by omega, ?_⟩, by omega, ⟨rfl, iv (by omega), trivial⟩, trivial⟩
    rw [← h2, ← trimL_last (m := l.take n) (by omega) (by rw [e (by omega), ← show ((n : Int) - 1).toNat = n - 1 by omega]; omega), hlen, List.take_take, Nat.min_eq_left (by omega)]
  · rename_i h3 h4
    rw [← h2, trimL_done (by rw [e (by omega), ← show ((n : Int) - 1).toNat = n - 1 by omega]; omega)]; rfl
  · rename_i h3
    have : n = 0 := by omega
    subst this
    rw [← h2]; rfl
theorem natural_FromUint (i : Int) (v : Nat) (e : i = v) (h : v < 18446744073709551616) : Ret Tryd.prog 68 [.int .u64 i] (· = u32s (limbs v)) := by
  subst e
  have ht := natural_trimmed [v % 4294967296, v / 4294967296] (by simp)
  rw [two_limbs v h] at ht
  have ht : Ret Tryd.prog 83 [D.sl 2 [D.int IntKind.u32 ((v : Int) % 4294967296), D.int IntKind.u32 ((v : Int) / 4294967296)]] fun x => x = u32s (limbs v) := ht
  refine ret_of_awp tab Tryd.func68 rfl rfl (Nat.le_of_ble_eq_true rfl) (fun w0 F0 => ?_)
  repeat' (first
    | refine awp_seq ?_ | refine awp_region ?_ | refine awpL_then ?_ | refine awpL_in ?_
    | (refine isBin ?_; first | refine sShr tab rfl ?_ | refine sQuo tab rfl ?_ | refine sRem tab rfl ?_ | (first | refine sDec tab rfl (fun _ => ?_) (fun _ => ?_) | refine sNdec tab rfl (fun _ => ?_) (fun _ => ?_)) <;> (try (exfalso; first | omega | (rename_i hq; exact hq rfl) | (rename_i hq; exact Bool.noConfusion hq))) | refine sWrap tab rfl ?_ | refine sBool tab rfl (fun e => ?_) (fun e => ?_) <;> (first | (exfalso; exact Bool.noConfusion e) | (revert e; first | refine tt_in ?_ | refine ff_in ?_) | skip) | refine sStep tab rfl ?_)
    | (refine isConv ?_; first | refine sConv tab rfl ?_ | refine sConvR tab rfl rfl ?_ | refine sStep tab rfl ?_)
    | (refine isUn ?_; first | refine sNot tab rfl (fun e => ?_) (fun e => ?_) <;> (first | (exfalso; exact Bool.noConfusion e) | (revert e; first | refine tt_in ?_ | refine ff_in ?_) | skip) | refine sUn tab rfl ?_ | refine sUnR tab rfl rfl ?_ | refine sStep tab rfl ?_)
    | (refine isLoad ?_; first | refine sLdu tab rfl ((Nat.mul_one _).trans (Int.toNat_natCast _)) ?_ | refine sLdu tab rfl (Nat.mul_one _) ?_ | refine sStep tab rfl ?_)
    | (refine isSlice ?_; first | refine sTake tab rfl rfl ?_ | refine sDrop tab rfl rfl ?_ | refine sStep tab rfl ?_)
    | (refine isCallF ?_; first | refine awpL_callE rfl rfl rfl rfl rfl rfl (ht) ?_ )
    | (refine isCall ?_; first | refine sApp tab rfl ?_ | refine sApp0 tab rfl ?_ | refine sStep tab rfl ?_)
    | (refine isMk ?_; first | refine sMk tab rfl (Int.toNat_natCast _) ?_ | refine sMk tab rfl rfl ?_ | refine sStep tab rfl ?_)
    | (refine isStore ?_; first | refine sSt tab rfl (Nat.mul_one _) ?_ | refine sStep tab rfl ?_)
    | (refine isOps ?_; refine sStep tab rfl ?_) | refine awp_block ?_ | refine awp_skip ?_ | (refine awp_exit ?_; show awp _ _ _ _)
    | (refine isCond ?_; refine awp_cond rfl (fun e => ?_) (fun e => ?_) <;> (first | (exfalso; exact Bool.noConfusion e) | (revert e; first | refine tt_in ?_ | refine ff_in ?_) | skip)) | refine awp_ret ⟨_, _, rfl, ok, ?_⟩)
  rfl
theorem integer_signed (neg : Bool) (n : Nat) (hl : (limbs n).length < 100000000000) : Ret Tryd.prog 67 [.bool neg, u32s (limbs n)] (· = zD (if neg then -(n : Int) else n)) := by
  rw [← signed_z]
  cases neg with
  | false => 
    refine ret_of_awp tab Tryd.func67 rfl rfl (Nat.le_of_ble_eq_true rfl) (fun w0 F0 => ?_)
    repeat' (first
      | refine awp_seq ?_ | refine awp_region ?_ | refine awpL_then ?_ | refine awpL_in ?_
      | (refine isBin ?_; first | refine sShr tab rfl ?_ | refine sQuo tab rfl ?_ | refine sRem tab rfl ?_ | (first | refine sDec tab rfl (fun _ => ?_) (fun _ => ?_) | refine sNdec tab rfl (fun _ => ?_) (fun _ => ?_)) <;> (try (exfalso; first | omega | (rename_i hq; exact hq rfl) | (rename_i hq; exact Bool.noConfusion hq))) | refine sWrap tab rfl ?_ | refine sBool tab rfl (fun e => ?_) (fun e => ?_) <;> (first | (exfalso; exact Bool.noConfusion e) | (revert e; first | refine tt_in ?_ | refine ff_in ?_) | skip) | refine sStep tab rfl ?_)
      | (refine isConv ?_; first | refine sConv tab rfl ?_ | refine sConvR tab rfl rfl ?_ | refine sStep tab rfl ?_)
      | (refine isUn ?_; first | refine sNot tab rfl (fun e => ?_) (fun e => ?_) <;> (first | (exfalso; exact Bool.noConfusion e) | (revert e; first | refine tt_in ?_ | refine ff_in ?_) | skip) | refine sUn tab rfl ?_ | refine sUnR tab rfl rfl ?_ | refine sStep tab rfl ?_)
      | (refine isLoad ?_; first | refine sLdu tab rfl ((Nat.mul_one _).trans (Int.toNat_natCast _)) ?_ | refine sLdu tab rfl (Nat.mul_one _) ?_ | refine sStep tab rfl ?_)
      | (refine isSlice ?_; first | refine sTake tab rfl rfl ?_ | refine sDrop tab rfl rfl ?_ | refine sStep tab rfl ?_)
      | (refine isCall ?_; first | refine sApp tab rfl ?_ | refine sApp0 tab rfl ?_ | refine sStep tab rfl ?_)
      | (refine isMk ?_; first | refine sMk tab rfl (Int.toNat_natCast _) ?_ | refine sMk tab rfl rfl ?_ | refine sStep tab rfl ?_)
      | (refine isStore ?_; first | refine sSt tab rfl (Nat.mul_one _) ?_ | refine sStep tab rfl ?_)
      | (refine isOps ?_; refine sStep tab rfl ?_) | refine awp_block ?_ | refine awp_skip ?_ | (refine awp_exit ?_; show awp _ _ _ _)
      | (refine isCond ?_; refine awp_cond rfl (fun e => ?_) (fun e => ?_) <;> (first | (exfalso; exact Bool.noConfusion e) | (revert e; first | refine tt_in ?_ | refine ff_in ?_) | skip)) | refine awp_ret ⟨_, _, rfl, ok, ?_⟩)
    rfl
  | true =>
    refine ret_of_awp tab Tryd.func67 rfl rfl (Nat.le_of_ble_eq_true rfl) (fun w0 F0 => ?_)
    repeat' (first
      | refine awp_seq ?_ | refine awp_region ?_ | refine awpL_then ?_ | refine awpL_in ?_
      | (refine isBin ?_; first | refine sShr tab rfl ?_ | refine sQuo tab rfl ?_ | refine sRem tab rfl ?_ | (first | refine sDec tab rfl (fun _ => ?_) (fun _ => ?_) | refine sNdec tab rfl (fun _ => ?_) (fun _ => ?_)) <;> (try (exfalso; first | omega | (rename_i hq; exact hq rfl) | (rename_i hq; exact Bool.noConfusion hq))) | refine sWrap tab rfl ?_ | refine sBool tab rfl (fun e => ?_) (fun e => ?_) <;> (first | (exfalso; exact Bool.noConfusion e) | (revert e; first | refine tt_in ?_ | refine ff_in ?_) | skip) | refine sStep tab rfl ?_)
      | (refine isConv ?_; first | refine sConv tab rfl ?_ | refine sConvR tab rfl rfl ?_ | refine sStep tab rfl ?_)
      | (refine isUn ?_; first | refine sNot tab rfl (fun e => ?_) (fun e => ?_) <;> (first | (exfalso; exact Bool.noConfusion e) | (revert e; first | refine tt_in ?_ | refine ff_in ?_) | skip) | refine sUn tab rfl ?_ | refine sUnR tab rfl rfl ?_ | refine sStep tab rfl ?_)
      | (refine isLoad ?_; first | refine sLdu tab rfl ((Nat.mul_one _).trans (Int.toNat_natCast _)) ?_ | refine sLdu tab rfl (Nat.mul_one _) ?_ | refine sStep tab rfl ?_)
      | (refine isSlice ?_; first | refine sTake tab rfl rfl ?_ | refine sDrop tab rfl rfl ?_ | refine sStep tab rfl ?_)
      | (refine isCall ?_; first | refine sApp tab rfl ?_ | refine sApp0 tab rfl ?_ | refine sStep tab rfl ?_)
      | (refine isMk ?_; first | refine sMk tab rfl (Int.toNat_natCast _) ?_ | refine sMk tab rfl rfl ?_ | refine sStep tab rfl ?_)
      | (refine isStore ?_; first | refine sSt tab rfl (Nat.mul_one _) ?_ | refine sStep tab rfl ?_)
      | (refine isOps ?_; refine sStep tab rfl ?_) | refine awp_block ?_ | refine awp_skip ?_ | (refine awp_exit ?_; show awp _ _ _ _)
      | (refine isCond ?_; refine awp_cond rfl (fun e => ?_) (fun e => ?_) <;> (first | (exfalso; exact Bool.noConfusion e) | (revert e; first | refine tt_in ?_ | refine ff_in ?_) | skip)) | refine awp_ret ⟨_, _, rfl, ok, ?_⟩)
    · rename_i h
      rw [decide_eq_true (show 0 < (limbs n).length by omega)]; rfl
    · rename_i h
      rw [decide_eq_false (show ¬ 0 < (limbs n).length by omega)]; rfl
theorem integer_FromInt (v : Int) (h1 : -9223372036854775808 ≤ v) (h2 : v < 9223372036854775808) : Ret Tryd.prog 48 [.int .i64 v] (· = zD v) := by
  by_cases h : v < 0
  · have l1 := u64_len (v := v.natAbs) (by omega)
    refine ret_of_awp tab Tryd.func48 rfl rfl (Nat.le_of_ble_eq_true rfl) (fun w0 F0 => ?_)
    repeat' (first
      | refine awp_seq ?_ | refine awp_region ?_ | refine awpL_then ?_ | refine awpL_in ?_
      | (refine isBin ?_; first | refine sShr tab rfl ?_ | refine sQuo tab rfl ?_ | refine sRem tab rfl ?_ | (first | refine sDec tab rfl (fun _ => ?_) (fun _ => ?_) | refine sNdec tab rfl (fun _ => ?_) (fun _ => ?_)) <;> (try (exfalso; first | omega | (rename_i hq; exact hq rfl) | (rename_i hq; exact Bool.noConfusion hq))) | refine sWrap tab rfl ?_ | refine sBool tab rfl (fun e => ?_) (fun e => ?_) <;> (first | (exfalso; exact Bool.noConfusion e) | (revert e; first | refine tt_in ?_ | refine ff_in ?_) | skip) | refine sStep tab rfl ?_)
      | (refine isConv ?_; first | refine sConv tab rfl ?_ | refine sConvR tab rfl rfl ?_ | refine sStep tab rfl ?_)
      | (refine isUn ?_; first | refine sNot tab rfl (fun e => ?_) (fun e => ?_) <;> (first | (exfalso; exact Bool.noConfusion e) | (revert e; first | refine tt_in ?_ | refine ff_in ?_) | skip) | refine sUn tab rfl ?_ | refine sUnR tab rfl rfl ?_ | refine sStep tab rfl ?_)
      | (refine isLoad ?_; first | refine sLdu tab rfl ((Nat.mul_one _).trans (Int.toNat_natCast _)) ?_ | refine sLdu tab rfl (Nat.mul_one _) ?_ | refine sStep tab rfl ?_)
      | (refine isSlice ?_; first | refine sTake tab rfl rfl ?_ | refine sDrop tab rfl rfl ?_ | refine sStep tab rfl ?_)
      | (refine isCallF ?_; first | refine awpL_callE rfl rfl rfl rfl rfl rfl (natural_FromUint _ v.natAbs (by omega) (by omega)) ?_ | refine awpL_callE rfl rfl rfl rfl rfl rfl (integer_signed true _ (by omega)) ?_ )
      | (refine isCall ?_; first | refine sApp tab rfl ?_ | refine sApp0 tab rfl ?_ | refine sStep tab rfl ?_)
      | (refine isMk ?_; first | refine sMk tab rfl (Int.toNat_natCast _) ?_ | refine sMk tab rfl rfl ?_ | refine sStep tab rfl ?_)
      | (refine isStore ?_; first | refine sSt tab rfl (Nat.mul_one _) ?_ | refine sStep tab rfl ?_)
      | (refine isOps ?_; refine sStep tab rfl ?_) | refine awp_block ?_ | refine awp_skip ?_ | (refine awp_exit ?_; show awp _ _ _ _)
      | (refine isCond ?_; refine awp_cond rfl (fun e => ?_) (fun e => ?_) <;> (first | (exfalso; exact Bool.noConfusion e) | (revert e; first | refine tt_in ?_ | refine ff_in ?_) | skip)) | refine awp_ret ⟨_, _, rfl, ok, ?_⟩)
    refine congrArg zD ?_
    simp only [if_true]; omega
  · have l1 := u64_len (v := v.natAbs) (by omega)
    refine ret_of_awp tab Tryd.func48 rfl rfl (Nat.le_of_ble_eq_true rfl) (fun w0 F0 => ?_)
    repeat' (first
      | refine awp_seq ?_ | refine awp_region ?_ | refine awpL_then ?_ | refine awpL_in ?_
      | (refine isBin ?_; first | refine sShr tab rfl ?_ | refine sQuo tab rfl ?_ | refine sRem tab rfl ?_ | (first | refine sDec tab rfl (fun _ => ?_) (fun _ => ?_) | refine sNdec tab rfl (fun _ => ?_) (fun _ => ?_)) <;> (try (exfalso; first | omega | (rename_i hq; exact hq rfl) | (rename_i hq; exact Bool.noConfusion hq))) | refine sWrap tab rfl ?_ | refine sBool tab rfl (fun e => ?_) (fun e => ?_) <;> (first | (exfalso; exact Bool.noConfusion e) | (revert e; first | refine tt_in ?_ | refine ff_in ?_) | skip) | refine sStep tab rfl ?_)
      | (refine isConv ?_; first | refine sConv tab rfl ?_ | refine sConvR tab rfl rfl ?_ | refine sStep tab rfl ?_)
      | (refine isUn ?_; first | refine sNot tab rfl (fun e => ?_) (fun e => ?_) <;> (first | (exfalso; exact Bool.noConfusion e) | (revert e; first | refine tt_in ?_ | refine ff_in ?_) | skip) | refine sUn tab rfl ?_ | refine sUnR tab rfl rfl ?_ | refine sStep tab rfl ?_)
      | (refine isLoad ?_; first | refine sLdu tab rfl ((Nat.mul_one _).trans (Int.toNat_natCast _)) ?_ | refine sLdu tab rfl (Nat.mul_one _) ?_ | refine sStep tab rfl ?_)
      | (refine isSlice ?_; first | refine sTake tab rfl rfl ?_ | refine sDrop tab rfl rfl ?_ | refine sStep tab rfl ?_)
      | (refine isCallF ?_; first | refine awpL_callE rfl rfl rfl rfl rfl rfl (natural_FromUint _ v.natAbs (by omega) (by omega)) ?_ | refine awpL_callE rfl rfl rfl rfl rfl rfl (integer_signed false _ (by omega)) ?_ )
      | (refine isCall ?_; first | refine sApp tab rfl ?_ | refine sApp0 tab rfl ?_ | refine sStep tab rfl ?_)
      | (refine isMk ?_; first | refine sMk tab rfl (Int.toNat_natCast _) ?_ | refine sMk tab rfl rfl ?_ | refine sStep tab rfl ?_)
      | (refine isStore ?_; first | refine sSt tab rfl (Nat.mul_one _) ?_ | refine sStep tab rfl ?_)
      | (refine isOps ?_; refine sStep tab rfl ?_) | refine awp_block ?_ | refine awp_skip ?_ | (refine awp_exit ?_; show awp _ _ _ _)
      | (refine isCond ?_; refine awp_cond rfl (fun e => ?_) (fun e => ?_) <;> (first | (exfalso; exact Bool.noConfusion e) | (revert e; first | refine tt_in ?_ | refine ff_in ?_) | skip)) | refine awp_ret ⟨_, _, rfl, ok, ?_⟩)
    refine congrArg zD ?_
    simp only [Bool.false_eq_true, if_false]; omega
theorem rational_FromInt (v : Int) (h1 : -9223372036854775808 ≤ v) (h2 : v < 9223372036854775808) : Ret Tryd.prog 25 [.int .i64 v] (· = rD (zR v)) := by
  refine ret_of_awp tab Tryd.func25 rfl rfl (Nat.le_of_ble_eq_true rfl) (fun w0 F0 => ?_)
  repeat' (first
    | refine awp_seq ?_ | refine awp_region ?_ | refine awpL_then ?_ | refine awpL_in ?_
    | (refine isBin ?_; first | refine sShr tab rfl ?_ | refine sQuo tab rfl ?_ | refine sRem tab rfl ?_ | (first | refine sDec tab rfl (fun _ => ?_) (fun _ => ?_) | refine sNdec tab rfl (fun _ => ?_) (fun _ => ?_)) <;> (try (exfalso; first | omega | (rename_i hq; exact hq rfl) | (rename_i hq; exact Bool.noConfusion hq))) | refine sWrap tab rfl ?_ | refine sBool tab rfl (fun e => ?_) (fun e => ?_) <;> (first | (exfalso; exact Bool.noConfusion e) | (revert e; first | refine tt_in ?_ | refine ff_in ?_) | skip) | refine sStep tab rfl ?_)
    | (refine isConv ?_; first | refine sConv tab rfl ?_ | refine sConvR tab rfl rfl ?_ | refine sStep tab rfl ?_)
    | (refine isUn ?_; first | refine sNot tab rfl (fun e => ?_) (fun e => ?_) <;> (first | (exfalso; exact Bool.noConfusion e) | (revert e; first | refine tt_in ?_ | refine ff_in ?_) | skip) | refine sUn tab rfl ?_ | refine sUnR tab rfl rfl ?_ | refine sStep tab rfl ?_)
    | (refine isLoad ?_; first | refine sLdu tab rfl ((Nat.mul_one _).trans (Int.toNat_natCast _)) ?_ | refine sLdu tab rfl (Nat.mul_one _) ?_ | refine sStep tab rfl ?_)
    | (refine isSlice ?_; first | refine sTake tab rfl rfl ?_ | refine sDrop tab rfl rfl ?_ | refine sStep tab rfl ?_)
    | (refine isCallF ?_; first | refine awpL_callE rfl rfl rfl rfl rfl rfl (integer_FromInt v h1 h2) ?_ )
    | (refine isCall ?_; first | refine sApp tab rfl ?_ | refine sApp0 tab rfl ?_ | refine sStep tab rfl ?_)
    | (refine isMk ?_; first | refine sMk tab rfl (Int.toNat_natCast _) ?_ | refine sMk tab rfl rfl ?_ | refine sStep tab rfl ?_)
    | (refine isStore ?_; first | refine sSt tab rfl (Nat.mul_one _) ?_ | refine sStep tab rfl ?_)
    | (refine isOps ?_; refine sStep tab rfl ?_) | refine awp_block ?_ | refine awp_skip ?_ | (refine awp_exit ?_; show awp _ _ _ _)
    | (refine isCond ?_; refine awp_cond rfl (fun e => ?_) (fun e => ?_) <;> (first | (exfalso; exact Bool.noConfusion e) | (revert e; first | refine tt_in ?_ | refine ff_in ?_) | skip)) | refine awp_ret ⟨_, _, rfl, ok, ?_⟩)
  rfl
end Go.Proofs.YtcblkjmnigbiiaaDoor
