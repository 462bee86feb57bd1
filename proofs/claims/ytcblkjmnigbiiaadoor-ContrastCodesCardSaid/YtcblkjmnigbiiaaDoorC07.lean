/-
  Contracts of functions of the program, walked with the abstract layer. Conditions: as each says.
-/
import Derived.Test.YtcblkjmnigbiiaaDoorC06
import Derived.KernelRfl
set_option autoImplicit false
set_option linter.unusedVariables false
set_option linter.unusedSimpArgs false
namespace Go.Proofs.YtcblkjmnigbiiaaDoor
open Go.Ab
attribute [local irreducible] awp awpL

theorem matZ_ok (c n : Int) (h : codingOk c n = true) : ∀ l ∈ matZ c n n.toNat, l.length < 100000000000 ∧ ∀ r ∈ l, okR 100000000000 r := by
  obtain ⟨b1, b2, b3, b4⟩ := bounds_of h
  have hcol : 0 ≤ colsZ c n ∧ colsZ c n ≤ 32 := by unfold colsZ; split <;> omega
  intro l hl
  simp only [matZ, List.mem_map, List.mem_range] at hl
  obtain ⟨i, hi, rfl⟩ := hl
  refine ⟨by rw [rowZ_length]; omega, fun r hr => ?_⟩
  simp only [rowZ, List.mem_map, List.mem_range] at hr
  obtain ⟨j, hj, rfl⟩ := hr
  have := entryZ_bound (c := c) (n := n) (i := i) (j := j) (by omega) (by omega) (by omega) (by omega)
  exact ⟨Nat.lt_of_le_of_lt (len_small (by omega)) (by decide), (by show ([] : List Nat).length < _; decide)⟩

theorem codes_true (c n : Int) : Ret Tryd.prog 3 [.int .i64 c, .int .i64 n] (· = .bool true) := by
  have h1 := contrast_Matrix c n
  have h2 := ref11_Matrix c n
  unfold matD at h1 h2
  cases h : codingOk c n with
  | true =>
    obtain ⟨b1, b2, b3, b4⟩ := bounds_of h
    simp only [h, if_true] at h1 h2
    have hs := ref03_SameLists (matZ c n n.toNat) (matZ c n n.toNat) (by rw [matZ_length]; omega) (by rw [matZ_length]; omega) (matZ_ok c n h) (matZ_ok c n h)
    rw [decide_eq_true rfl] at hs
    refine ret_of_awp tab Tryd.func3 rfl rfl (Nat.le_of_ble_eq_true rfl) (fun w0 F0 => ?_)
    repeat' (first
      | refine awp_seq ?_ | refine awp_region ?_ | refine awpL_then ?_ | refine awpL_in ?_
      | (refine isBin ?_; first | refine sShr tab rfl ?_ | refine sQuo tab rfl ?_ | refine sRem tab rfl ?_ | (first | refine sDec tab rfl (fun _ => ?_) (fun _ => ?_) | refine sNdec tab rfl (fun _ => ?_) (fun _ => ?_)) <;> (try (exfalso; first | omega | (rename_i hq; exact hq rfl) | (rename_i hq; exact Bool.noConfusion hq))) | refine sWrap tab rfl ?_ | refine sBool tab rfl (fun e => ?_) (fun e => ?_) <;> (first | (exfalso; exact Bool.noConfusion e) | (revert e; first | refine tt_in ?_ | refine ff_in ?_) | skip) | refine sStep tab rfl ?_)
      | (refine isConv ?_; first | refine sConv tab rfl ?_ | refine sConvR tab rfl rfl ?_ | refine sStep tab rfl ?_)
      | (refine isUn ?_; first | refine sNot tab rfl (fun e => ?_) (fun e => ?_) <;> (first | (exfalso; exact Bool.noConfusion e) | (revert e; first | refine tt_in ?_ | refine ff_in ?_) | skip) | refine sUn tab rfl ?_ | refine sUnR tab rfl rfl ?_ | refine sStep tab rfl ?_)
      | (refine isLoad ?_; first | refine sLdu tab rfl ((Nat.mul_one _).trans (Int.toNat_natCast _)) ?_ | refine sLdu tab rfl (Nat.mul_one _) ?_ | (refine awpL_ldr tab rfl (Int.toNat_natCast _) ?_ ?_; (· omega)) | (refine awpL_ldm (f := rsD) [] tab rfl ((Nat.mul_one _).trans (Int.toNat_natCast _)) ?_ ?_; (· omega)) | (refine awpL_ldm (f := D.str) ByteArray.empty tab rfl ((Nat.mul_one _).trans (Int.toNat_natCast _)) ?_ ?_; (· omega)) | refine sStep tab rfl ?_)
      | (refine isSlice ?_; first | refine sTake tab rfl rfl ?_ | refine sDrop tab rfl rfl ?_ | refine sStep tab rfl ?_)
      | (refine isCallF ?_; first | refine awpL_callE rfl rfl rfl rfl rfl rfl (h1) ?_ | refine awpL_callE rfl rfl rfl rfl rfl rfl (h2) ?_ | refine awpL_callE rfl rfl rfl rfl rfl rfl (awake_true) ?_ | refine awpL_callE rfl rfl rfl rfl rfl rfl (hs) ?_ )
      | (refine isCall ?_; first | (refine awpL_appr tab rfl ?_ (by decide) ?_; (· omega)) | (refine awpL_appm (f := rsD) tab rfl (rfz1 _) ?_ (by decide) ?_; (· omega)) | (refine awpL_appm (f := rsD) tab rfl rfl ?_ (by decide) ?_; (· omega)) | refine sApp tab rfl ?_ | refine sApp0 tab rfl ?_ | refine sStep tab rfl ?_)
      | (refine isMk ?_; first | refine sMk tab rfl (Int.toNat_natCast _) ?_ | refine sMk tab rfl rfl ?_ | refine sStep tab rfl ?_)
      | (refine isStore ?_; first | refine sSt tab rfl (Nat.mul_one _) ?_ | refine sStep tab rfl ?_)
      | (refine isOps ?_; refine sStep tab rfl ?_) | refine awp_block ?_ | refine awp_skip ?_ | (refine awp_exit ?_; show awp _ _ _ _)
      | (refine isCond ?_; refine awp_cond rfl (fun e => ?_) (fun e => ?_) <;> (first | (exfalso; exact Bool.noConfusion e) | (revert e; first | refine tt_in ?_ | refine ff_in ?_) | skip)) | refine awp_ret ⟨_, _, rfl, ok, ?_⟩)
    rfl
  | false =>
    simp only [h, Bool.false_eq_true, if_false] at h1 h2
    have hs := ref03_SameLists [] [] (by decide) (by decide) (by simp) (by simp)
    rw [decide_eq_true rfl] at hs
    refine ret_of_awp tab Tryd.func3 rfl rfl (Nat.le_of_ble_eq_true rfl) (fun w0 F0 => ?_)
    repeat' (first
      | refine awp_seq ?_ | refine awp_region ?_ | refine awpL_then ?_ | refine awpL_in ?_
      | (refine isBin ?_; first | refine sShr tab rfl ?_ | refine sQuo tab rfl ?_ | refine sRem tab rfl ?_ | (first | refine sDec tab rfl (fun _ => ?_) (fun _ => ?_) | refine sNdec tab rfl (fun _ => ?_) (fun _ => ?_)) <;> (try (exfalso; first | omega | (rename_i hq; exact hq rfl) | (rename_i hq; exact Bool.noConfusion hq))) | refine sWrap tab rfl ?_ | refine sBool tab rfl (fun e => ?_) (fun e => ?_) <;> (first | (exfalso; exact Bool.noConfusion e) | (revert e; first | refine tt_in ?_ | refine ff_in ?_) | skip) | refine sStep tab rfl ?_)
      | (refine isConv ?_; first | refine sConv tab rfl ?_ | refine sConvR tab rfl rfl ?_ | refine sStep tab rfl ?_)
      | (refine isUn ?_; first | refine sNot tab rfl (fun e => ?_) (fun e => ?_) <;> (first | (exfalso; exact Bool.noConfusion e) | (revert e; first | refine tt_in ?_ | refine ff_in ?_) | skip) | refine sUn tab rfl ?_ | refine sUnR tab rfl rfl ?_ | refine sStep tab rfl ?_)
      | (refine isLoad ?_; first | refine sLdu tab rfl ((Nat.mul_one _).trans (Int.toNat_natCast _)) ?_ | refine sLdu tab rfl (Nat.mul_one _) ?_ | (refine awpL_ldr tab rfl (Int.toNat_natCast _) ?_ ?_; (· omega)) | (refine awpL_ldm (f := rsD) [] tab rfl ((Nat.mul_one _).trans (Int.toNat_natCast _)) ?_ ?_; (· omega)) | (refine awpL_ldm (f := D.str) ByteArray.empty tab rfl ((Nat.mul_one _).trans (Int.toNat_natCast _)) ?_ ?_; (· omega)) | refine sStep tab rfl ?_)
      | (refine isSlice ?_; first | refine sTake tab rfl rfl ?_ | refine sDrop tab rfl rfl ?_ | refine sStep tab rfl ?_)
      | (refine isCallF ?_; first | refine awpL_callE rfl rfl rfl rfl rfl rfl (h1) ?_ | refine awpL_callE rfl rfl rfl rfl rfl rfl (h2) ?_ | refine awpL_callE rfl rfl rfl rfl rfl rfl (awake_true) ?_ | refine awpL_callE rfl rfl rfl rfl rfl rfl (hs) ?_ )
      | (refine isCall ?_; first | (refine awpL_appr tab rfl ?_ (by decide) ?_; (· omega)) | (refine awpL_appm (f := rsD) tab rfl (rfz1 _) ?_ (by decide) ?_; (· omega)) | (refine awpL_appm (f := rsD) tab rfl rfl ?_ (by decide) ?_; (· omega)) | refine sApp tab rfl ?_ | refine sApp0 tab rfl ?_ | refine sStep tab rfl ?_)
      | (refine isMk ?_; first | refine sMk tab rfl (Int.toNat_natCast _) ?_ | refine sMk tab rfl rfl ?_ | refine sStep tab rfl ?_)
      | (refine isStore ?_; first | refine sSt tab rfl (Nat.mul_one _) ?_ | refine sStep tab rfl ?_)
      | (refine isOps ?_; refine sStep tab rfl ?_) | refine awp_block ?_ | refine awp_skip ?_ | (refine awp_exit ?_; show awp _ _ _ _)
      | (refine isCond ?_; refine awp_cond rfl (fun e => ?_) (fun e => ?_) <;> (first | (exfalso; exact Bool.noConfusion e) | (revert e; first | refine tt_in ?_ | refine ff_in ?_) | skip)) | refine awp_ret ⟨_, _, rfl, ok, ?_⟩)
    rfl
end Go.Proofs.YtcblkjmnigbiiaaDoor
