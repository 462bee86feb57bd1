/-
  Contracts of functions of the program, walked with the abstract layer. Conditions: as each says.
-/
import Derived.Test.YtcblkjmnigbiiaaDoorC03
import Derived.KernelRfl
set_option autoImplicit false
set_option linter.unusedVariables false
set_option linter.unusedSimpArgs false
namespace Go.Proofs.YtcblkjmnigbiiaaDoor
open Go.Ab
attribute [local irreducible] awp awpL

/-- What both functions return. -/
def matD (c n : Int) : D := if codingOk c n then .tup [rssD (matZ c n n.toNat), .int .i64 0] else .tup [.sl 0 [], .int .i64 1]

theorem bounds_of {c n : Int} (h : codingOk c n = true) : 1 ≤ c ∧ c ≤ 4 ∧ 1 ≤ n ∧ n ≤ 32 := by
  unfold codingOk at h; simp at h; omega

theorem ref11_Matrix (c n : Int) : Ret Tryd.prog 8 [.int .i64 c, .int .i64 n] (· = matD c n) := by
  have hp := ref11_Possible c n
  unfold matD
  cases h : codingOk c n with
  | false =>
    rw [h] at hp
    refine ret_of_awp tab Tryd.func8 rfl rfl (Nat.le_of_ble_eq_true rfl) (fun w0 F0 => ?_)
    repeat' (first
      | refine awp_seq ?_ | refine awp_region ?_ | refine awpL_then ?_ | refine awpL_in ?_
      | (refine isBin ?_; first | refine sShr tab rfl ?_ | refine sQuo tab rfl ?_ | refine sRem tab rfl ?_ | (first | refine sDec tab rfl (fun _ => ?_) (fun _ => ?_) | refine sNdec tab rfl (fun _ => ?_) (fun _ => ?_)) <;> (try (exfalso; first | omega | (rename_i hq; exact hq rfl) | (rename_i hq; exact Bool.noConfusion hq))) | refine sWrap tab rfl ?_ | refine sBool tab rfl (fun e => ?_) (fun e => ?_) <;> (first | (exfalso; exact Bool.noConfusion e) | (revert e; first | refine tt_in ?_ | refine ff_in ?_) | skip) | refine sStep tab rfl ?_)
      | (refine isConv ?_; first | refine sConv tab rfl ?_ | refine sConvR tab rfl rfl ?_ | refine sStep tab rfl ?_)
      | (refine isUn ?_; first | refine sNot tab rfl (fun e => ?_) (fun e => ?_) <;> (first | (exfalso; exact Bool.noConfusion e) | (revert e; first | refine tt_in ?_ | refine ff_in ?_) | skip) | refine sUn tab rfl ?_ | refine sUnR tab rfl rfl ?_ | refine sStep tab rfl ?_)
      | (refine isLoad ?_; first | refine sLdu tab rfl ((Nat.mul_one _).trans (Int.toNat_natCast _)) ?_ | refine sLdu tab rfl (Nat.mul_one _) ?_ | (refine awpL_ldr tab rfl (Int.toNat_natCast _) ?_ ?_; (· omega)) | (refine awpL_ldm (f := rsD) [] tab rfl ((Nat.mul_one _).trans (Int.toNat_natCast _)) ?_ ?_; (· omega)) | (refine awpL_ldm (f := D.str) ByteArray.empty tab rfl ((Nat.mul_one _).trans (Int.toNat_natCast _)) ?_ ?_; (· omega)) | refine sStep tab rfl ?_)
      | (refine isSlice ?_; first | refine sTake tab rfl rfl ?_ | refine sDrop tab rfl rfl ?_ | refine sStep tab rfl ?_)
      | (refine isCallF ?_; first | refine awpL_callE rfl rfl rfl rfl rfl rfl (hp) ?_ )
      | (refine isCall ?_; first | (refine awpL_appr tab rfl ?_ (by decide) ?_; (· omega)) | (refine awpL_appm (f := rsD) tab rfl (rfz1 _) ?_ (by decide) ?_; (· omega)) | (refine awpL_appm (f := rsD) tab rfl rfl ?_ (by decide) ?_; (· omega)) | refine sApp tab rfl ?_ | refine sApp0 tab rfl ?_ | refine sStep tab rfl ?_)
      | (refine isMk ?_; first | refine sMk tab rfl (Int.toNat_natCast _) ?_ | refine sMk tab rfl rfl ?_ | refine sStep tab rfl ?_)
      | (refine isStore ?_; first | refine sSt tab rfl (Nat.mul_one _) ?_ | refine sStep tab rfl ?_)
      | (refine isOps ?_; refine sStep tab rfl ?_) | refine awp_block ?_ | refine awp_skip ?_ | (refine awp_exit ?_; show awp _ _ _ _)
      | (refine isCond ?_; refine awp_cond rfl (fun e => ?_) (fun e => ?_) <;> (first | (exfalso; exact Bool.noConfusion e) | (revert e; first | refine tt_in ?_ | refine ff_in ?_) | skip)) | refine awp_ret ⟨_, _, rfl, ok, ?_⟩)
    rfl
  | true =>
    rw [h] at hp
    obtain ⟨b1, b2, b3, b4⟩ := bounds_of h
    have hcol : 0 ≤ colsZ c n ∧ colsZ c n ≤ 32 := by unfold colsZ; split <;> omega
    have hcl := ref11_columns c n (by omega) (by omega)
    refine ret_of_awp tab Tryd.func8 rfl rfl (Nat.le_of_ble_eq_true rfl) (fun w0 F0 => ?_)
    repeat' (first
      | refine awp_seq ?_ | refine awp_region ?_ | refine awpL_then ?_ | refine awpL_in ?_
      | (refine isBin ?_; first | refine sShr tab rfl ?_ | refine sQuo tab rfl ?_ | refine sRem tab rfl ?_ | (first | refine sDec tab rfl (fun _ => ?_) (fun _ => ?_) | refine sNdec tab rfl (fun _ => ?_) (fun _ => ?_)) <;> (try (exfalso; first | omega | (rename_i hq; exact hq rfl) | (rename_i hq; exact Bool.noConfusion hq))) | refine sWrap tab rfl ?_ | refine sBool tab rfl (fun e => ?_) (fun e => ?_) <;> (first | (exfalso; exact Bool.noConfusion e) | (revert e; first | refine tt_in ?_ | refine ff_in ?_) | skip) | refine sStep tab rfl ?_)
      | (refine isConv ?_; first | refine sConv tab rfl ?_ | refine sConvR tab rfl rfl ?_ | refine sStep tab rfl ?_)
      | (refine isUn ?_; first | refine sNot tab rfl (fun e => ?_) (fun e => ?_) <;> (first | (exfalso; exact Bool.noConfusion e) | (revert e; first | refine tt_in ?_ | refine ff_in ?_) | skip) | refine sUn tab rfl ?_ | refine sUnR tab rfl rfl ?_ | refine sStep tab rfl ?_)
      | (refine isLoad ?_; first | refine sLdu tab rfl ((Nat.mul_one _).trans (Int.toNat_natCast _)) ?_ | refine sLdu tab rfl (Nat.mul_one _) ?_ | (refine awpL_ldr tab rfl (Int.toNat_natCast _) ?_ ?_; (· omega)) | (refine awpL_ldm (f := rsD) [] tab rfl ((Nat.mul_one _).trans (Int.toNat_natCast _)) ?_ ?_; (· omega)) | (refine awpL_ldm (f := D.str) ByteArray.empty tab rfl ((Nat.mul_one _).trans (Int.toNat_natCast _)) ?_ ?_; (· omega)) | refine sStep tab rfl ?_)
      | (refine isSlice ?_; first | refine sTake tab rfl rfl ?_ | refine sDrop tab rfl rfl ?_ | refine sStep tab rfl ?_)
      | (refine isCallF ?_; first | refine awpL_callE rfl rfl rfl rfl rfl rfl (hp) ?_ )
      | (refine isCall ?_; first | (refine awpL_appr tab rfl ?_ (by decide) ?_; (· omega)) | (refine awpL_appm (f := rsD) tab rfl (rfz1 _) ?_ (by decide) ?_; (· omega)) | (refine awpL_appm (f := rsD) tab rfl rfl ?_ (by decide) ?_; (· omega)) | refine sApp tab rfl ?_ | refine sApp0 tab rfl ?_ | refine sStep tab rfl ?_)
      | (refine isMk ?_; first | refine sMk tab rfl (Int.toNat_natCast _) ?_ | refine sMk tab rfl rfl ?_ | refine sStep tab rfl ?_)
      | (refine isStore ?_; first | refine sSt tab rfl (Nat.mul_one _) ?_ | refine sStep tab rfl ?_)
      | (refine isOps ?_; refine sStep tab rfl ?_) | refine awp_block ?_ | refine awp_skip ?_ | (refine awp_exit ?_; show awp _ _ _ _)
      | (refine isCond ?_; refine awp_cond rfl (fun e => ?_) (fun e => ?_) <;> (first | (exfalso; exact Bool.noConfusion e) | (revert e; first | refine tt_in ?_ | refine ff_in ?_) | skip)) | refine awp_ret ⟨_, _, rfl, ok, ?_⟩)
    refine awp_adopt 6 38 33 1 rfl ?_
    refine awp_loop1 (fun i : Nat => ([(0, .d (.int .i64 c)), (1, .d (.int .i64 n)), (6, .own 38 (matZ c n i).length 33 1), (7, .d (.int .i64 i))], [(38, .data 33 ((matZ c n i).map rsD))])) (fun i => (i : Int) ≤ n) (fun i => n.toNat - i) 0 (by omega) ⟨rfl, rfl, rfl, rfl, trivial⟩ ⟨rfl, trivial⟩ (fun i hi => ?_)
    have hml := matZ_length c n i
    repeat' (first
      | refine awp_seq ?_ | refine awp_region ?_ | refine awpL_then ?_ | refine awpL_in ?_
      | (refine isBin ?_; first | refine sShr tab rfl ?_ | refine sQuo tab rfl ?_ | refine sRem tab rfl ?_ | (first | refine sDec tab rfl (fun _ => ?_) (fun _ => ?_) | refine sNdec tab rfl (fun _ => ?_) (fun _ => ?_)) <;> (try (exfalso; first | omega | (rename_i hq; exact hq rfl) | (rename_i hq; exact Bool.noConfusion hq))) | refine sWrap tab rfl ?_ | refine sBool tab rfl (fun e => ?_) (fun e => ?_) <;> (first | (exfalso; exact Bool.noConfusion e) | (revert e; first | refine tt_in ?_ | refine ff_in ?_) | skip) | refine sStep tab rfl ?_)
      | (refine isConv ?_; first | refine sConv tab rfl ?_ | refine sConvR tab rfl rfl ?_ | refine sStep tab rfl ?_)
      | (refine isUn ?_; first | refine sNot tab rfl (fun e => ?_) (fun e => ?_) <;> (first | (exfalso; exact Bool.noConfusion e) | (revert e; first | refine tt_in ?_ | refine ff_in ?_) | skip) | refine sUn tab rfl ?_ | refine sUnR tab rfl rfl ?_ | refine sStep tab rfl ?_)
      | (refine isLoad ?_; first | refine sLdu tab rfl ((Nat.mul_one _).trans (Int.toNat_natCast _)) ?_ | refine sLdu tab rfl (Nat.mul_one _) ?_ | (refine awpL_ldr tab rfl (Int.toNat_natCast _) ?_ ?_; (· omega)) | (refine awpL_ldm (f := rsD) [] tab rfl ((Nat.mul_one _).trans (Int.toNat_natCast _)) ?_ ?_; (· omega)) | (refine awpL_ldm (f := D.str) ByteArray.empty tab rfl ((Nat.mul_one _).trans (Int.toNat_natCast _)) ?_ ?_; (· omega)) | refine sStep tab rfl ?_)
      | (refine isSlice ?_; first | refine sTake tab rfl rfl ?_ | refine sDrop tab rfl rfl ?_ | refine sStep tab rfl ?_)
      | (refine isCall ?_; first | (refine awpL_appr tab rfl ?_ (by decide) ?_; (· omega)) | (refine awpL_appm (f := rsD) tab rfl (rfz1 _) ?_ (by decide) ?_; (· omega)) | (refine awpL_appm (f := rsD) tab rfl rfl ?_ (by decide) ?_; (· omega)) | refine sApp tab rfl ?_ | refine sApp0 tab rfl ?_ | refine sStep tab rfl ?_)
      | (refine isMk ?_; first | refine sMk tab rfl (Int.toNat_natCast _) ?_ | refine sMk tab rfl rfl ?_ | refine sStep tab rfl ?_)
      | (refine isStore ?_; first | refine sSt tab rfl (Nat.mul_one _) ?_ | refine sStep tab rfl ?_)
      | (refine isOps ?_; refine sStep tab rfl ?_) | refine awp_block ?_ | refine awp_skip ?_ | (refine awp_exit ?_; show awp _ _ _ _)
      | (refine isCond ?_; refine awp_cond rfl (fun e => ?_) (fun e => ?_) <;> (first | (exfalso; exact Bool.noConfusion e) | (revert e; first | refine tt_in ?_ | refine ff_in ?_) | skip)) | refine awp_ret ⟨_, _, rfl, ok, ?_⟩)
    · rename_i hin
      refine awp_adopt 8 34 44 3 rfl ?_
      refine awp_loop1 (fun j : Nat => ([(0, .d (.int .i64 c)), (1, .d (.int .i64 n)), (6, .own 38 (matZ c n i).length 33 1), (7, .d (.int .i64 i)), (8, .own 34 (rowZ c n i j).length 44 3), (9, .d (.int .i64 j))], [(38, .data 33 ((matZ c n i).map rsD)), (34, .data 44 ((rowZ c n i j).flatMap rC))])) (fun j => (j : Int) ≤ colsZ c n) (fun j => (colsZ c n).toNat - j) 0 (by omega) ⟨rfl, rfl, rfl, rfl, rfl, rfl, trivial⟩ ⟨rfl, rfl, trivial⟩ (fun j hj => ?_)
      have hrl := rowZ_length c n i j
      repeat' (first
        | refine awp_seq ?_ | refine awp_region ?_ | refine awpL_then ?_ | refine awpL_in ?_
        | (refine isBin ?_; first | refine sShr tab rfl ?_ | refine sQuo tab rfl ?_ | refine sRem tab rfl ?_ | (first | refine sDec tab rfl (fun _ => ?_) (fun _ => ?_) | refine sNdec tab rfl (fun _ => ?_) (fun _ => ?_)) <;> (try (exfalso; first | omega | (rename_i hq; exact hq rfl) | (rename_i hq; exact Bool.noConfusion hq))) | refine sWrap tab rfl ?_ | refine sBool tab rfl (fun e => ?_) (fun e => ?_) <;> (first | (exfalso; exact Bool.noConfusion e) | (revert e; first | refine tt_in ?_ | refine ff_in ?_) | skip) | refine sStep tab rfl ?_)
        | (refine isConv ?_; first | refine sConv tab rfl ?_ | refine sConvR tab rfl rfl ?_ | refine sStep tab rfl ?_)
        | (refine isUn ?_; first | refine sNot tab rfl (fun e => ?_) (fun e => ?_) <;> (first | (exfalso; exact Bool.noConfusion e) | (revert e; first | refine tt_in ?_ | refine ff_in ?_) | skip) | refine sUn tab rfl ?_ | refine sUnR tab rfl rfl ?_ | refine sStep tab rfl ?_)
        | (refine isLoad ?_; first | refine sLdu tab rfl ((Nat.mul_one _).trans (Int.toNat_natCast _)) ?_ | refine sLdu tab rfl (Nat.mul_one _) ?_ | (refine awpL_ldr tab rfl (Int.toNat_natCast _) ?_ ?_; (· omega)) | (refine awpL_ldm (f := rsD) [] tab rfl ((Nat.mul_one _).trans (Int.toNat_natCast _)) ?_ ?_; (· omega)) | (refine awpL_ldm (f := D.str) ByteArray.empty tab rfl ((Nat.mul_one _).trans (Int.toNat_natCast _)) ?_ ?_; (· omega)) | refine sStep tab rfl ?_)
        | (refine isSlice ?_; first | refine sTake tab rfl rfl ?_ | refine sDrop tab rfl rfl ?_ | refine sStep tab rfl ?_)
        | (refine isCallF ?_; first | refine awpL_callE rfl rfl rfl rfl rfl rfl (hcl) ?_ )
        | (refine isCall ?_; first | (refine awpL_appr tab rfl ?_ (by decide) ?_; (· omega)) | (refine awpL_appm (f := rsD) tab rfl (rfz1 _) ?_ (by decide) ?_; (· omega)) | (refine awpL_appm (f := rsD) tab rfl rfl ?_ (by decide) ?_; (· omega)) | refine sApp tab rfl ?_ | refine sApp0 tab rfl ?_ | refine sStep tab rfl ?_)
        | (refine isMk ?_; first | refine sMk tab rfl (Int.toNat_natCast _) ?_ | refine sMk tab rfl rfl ?_ | refine sStep tab rfl ?_)
        | (refine isStore ?_; first | refine sSt tab rfl (Nat.mul_one _) ?_ | refine sStep tab rfl ?_)
        | (refine isOps ?_; refine sStep tab rfl ?_) | refine awp_block ?_ | refine awp_skip ?_ | (refine awp_exit ?_; show awp _ _ _ _)
        | (refine isCond ?_; refine awp_cond rfl (fun e => ?_) (fun e => ?_) <;> (first | (exfalso; exact Bool.noConfusion e) | (revert e; first | refine tt_in ?_ | refine ff_in ?_) | skip)) | refine awp_ret ⟨_, _, rfl, ok, ?_⟩)
      · rename_i hjc
        have he := entryZ_bound (c := c) (n := n) (i := i) (j := j) (by omega) (by omega) (by omega) (by omega)
        repeat' (first
          | refine awp_seq ?_ | refine awp_region ?_ | refine awpL_then ?_ | refine awpL_in ?_
          | (refine isBin ?_; first | refine sShr tab rfl ?_ | refine sQuo tab rfl ?_ | refine sRem tab rfl ?_ | (first | refine sDec tab rfl (fun _ => ?_) (fun _ => ?_) | refine sNdec tab rfl (fun _ => ?_) (fun _ => ?_)) <;> (try (exfalso; first | omega | (rename_i hq; exact hq rfl) | (rename_i hq; exact Bool.noConfusion hq))) | refine sWrap tab rfl ?_ | refine sBool tab rfl (fun e => ?_) (fun e => ?_) <;> (first | (exfalso; exact Bool.noConfusion e) | (revert e; first | refine tt_in ?_ | refine ff_in ?_) | skip) | refine sStep tab rfl ?_)
          | (refine isConv ?_; first | refine sConv tab rfl ?_ | refine sConvR tab rfl rfl ?_ | refine sStep tab rfl ?_)
          | (refine isUn ?_; first | refine sNot tab rfl (fun e => ?_) (fun e => ?_) <;> (first | (exfalso; exact Bool.noConfusion e) | (revert e; first | refine tt_in ?_ | refine ff_in ?_) | skip) | refine sUn tab rfl ?_ | refine sUnR tab rfl rfl ?_ | refine sStep tab rfl ?_)
          | (refine isLoad ?_; first | refine sLdu tab rfl ((Nat.mul_one _).trans (Int.toNat_natCast _)) ?_ | refine sLdu tab rfl (Nat.mul_one _) ?_ | (refine awpL_ldr tab rfl (Int.toNat_natCast _) ?_ ?_; (· omega)) | (refine awpL_ldm (f := rsD) [] tab rfl ((Nat.mul_one _).trans (Int.toNat_natCast _)) ?_ ?_; (· omega)) | (refine awpL_ldm (f := D.str) ByteArray.empty tab rfl ((Nat.mul_one _).trans (Int.toNat_natCast _)) ?_ ?_; (· omega)) | refine sStep tab rfl ?_)
          | (refine isSlice ?_; first | refine sTake tab rfl rfl ?_ | refine sDrop tab rfl rfl ?_ | refine sStep tab rfl ?_)
          | (refine isCallF ?_; first | refine awpL_callE rfl rfl rfl rfl rfl rfl (ref11_entry c n i j b1 b2 (by omega) (by omega) (by omega) (by omega) (by omega) (by omega)) ?_ | refine awpL_callE rfl rfl rfl rfl rfl rfl (ref03_FromInt _ (by omega) (by omega)) ?_ )
          | (refine isCall ?_; first | (refine awpL_appr tab rfl ?_ (by decide) ?_; (· omega)) | (refine awpL_appm (f := rsD) tab rfl (rfz1 _) ?_ (by decide) ?_; (· omega)) | (refine awpL_appm (f := rsD) tab rfl rfl ?_ (by decide) ?_; (· omega)) | refine sApp tab rfl ?_ | refine sApp0 tab rfl ?_ | refine sStep tab rfl ?_)
          | (refine isMk ?_; first | refine sMk tab rfl (Int.toNat_natCast _) ?_ | refine sMk tab rfl rfl ?_ | refine sStep tab rfl ?_)
          | (refine isStore ?_; first | refine sSt tab rfl (Nat.mul_one _) ?_ | refine sStep tab rfl ?_)
          | (refine isOps ?_; refine sStep tab rfl ?_) | refine awp_block ?_ | refine awp_skip ?_ | (refine awp_exit ?_; show awp _ _ _ _)
          | (refine isCond ?_; refine awp_cond rfl (fun e => ?_) (fun e => ?_) <;> (first | (exfalso; exact Bool.noConfusion e) | (revert e; first | refine tt_in ?_ | refine ff_in ?_) | skip)) | refine awp_ret ⟨_, _, rfl, ok, ?_⟩)
        · refine ⟨j + 1, by omega, by omega, ⟨rfl, rfl, rfl, rfl, ?_, iv (by simp), trivial⟩, rfl, ?_, trivial⟩
          · rw [rowZ_succ]; rfl
          · rw [rowZ_succ]; rfl
      · have hj' : j = (colsZ c n).toNat := by omega
        subst hj'
        refine awpL_freeze (fun _ h => h) 34 rfl ?_
        repeat' (first
          | refine awp_seq ?_ | refine awp_region ?_ | refine awpL_then ?_ | refine awpL_in ?_
          | (refine isBin ?_; first | refine sShr tab rfl ?_ | refine sQuo tab rfl ?_ | refine sRem tab rfl ?_ | (first | refine sDec tab rfl (fun _ => ?_) (fun _ => ?_) | refine sNdec tab rfl (fun _ => ?_) (fun _ => ?_)) <;> (try (exfalso; first | omega | (rename_i hq; exact hq rfl) | (rename_i hq; exact Bool.noConfusion hq))) | refine sWrap tab rfl ?_ | refine sBool tab rfl (fun e => ?_) (fun e => ?_) <;> (first | (exfalso; exact Bool.noConfusion e) | (revert e; first | refine tt_in ?_ | refine ff_in ?_) | skip) | refine sStep tab rfl ?_)
          | (refine isConv ?_; first | refine sConv tab rfl ?_ | refine sConvR tab rfl rfl ?_ | refine sStep tab rfl ?_)
          | (refine isUn ?_; first | refine sNot tab rfl (fun e => ?_) (fun e => ?_) <;> (first | (exfalso; exact Bool.noConfusion e) | (revert e; first | refine tt_in ?_ | refine ff_in ?_) | skip) | refine sUn tab rfl ?_ | refine sUnR tab rfl rfl ?_ | refine sStep tab rfl ?_)
          | (refine isLoad ?_; first | refine sLdu tab rfl ((Nat.mul_one _).trans (Int.toNat_natCast _)) ?_ | refine sLdu tab rfl (Nat.mul_one _) ?_ | (refine awpL_ldr tab rfl (Int.toNat_natCast _) ?_ ?_; (· omega)) | (refine awpL_ldm (f := rsD) [] tab rfl ((Nat.mul_one _).trans (Int.toNat_natCast _)) ?_ ?_; (· omega)) | (refine awpL_ldm (f := D.str) ByteArray.empty tab rfl ((Nat.mul_one _).trans (Int.toNat_natCast _)) ?_ ?_; (· omega)) | refine sStep tab rfl ?_)
          | (refine isSlice ?_; first | refine sTake tab rfl rfl ?_ | refine sDrop tab rfl rfl ?_ | refine sStep tab rfl ?_)
          | (refine isCall ?_; first | (refine awpL_appr tab rfl ?_ (by decide) ?_; (· omega)) | (refine awpL_appm (f := rsD) tab rfl (rfz1 _) ?_ (by decide) ?_; (· omega)) | (refine awpL_appm (f := rsD) tab rfl rfl ?_ (by decide) ?_; (· omega)) | refine sApp tab rfl ?_ | refine sApp0 tab rfl ?_ | refine sStep tab rfl ?_)
          | (refine isMk ?_; first | refine sMk tab rfl (Int.toNat_natCast _) ?_ | refine sMk tab rfl rfl ?_ | refine sStep tab rfl ?_)
          | (refine isStore ?_; first | refine sSt tab rfl (Nat.mul_one _) ?_ | refine sStep tab rfl ?_)
          | (refine isOps ?_; refine sStep tab rfl ?_) | refine awp_block ?_ | refine awp_skip ?_ | (refine awp_exit ?_; show awp _ _ _ _)
          | (refine isCond ?_; refine awp_cond rfl (fun e => ?_) (fun e => ?_) <;> (first | (exfalso; exact Bool.noConfusion e) | (revert e; first | refine tt_in ?_ | refine ff_in ?_) | skip)) | refine awp_ret ⟨_, _, rfl, ok, ?_⟩)
        refine ⟨i + 1, by omega, by omega, ⟨rfl, rfl, ?_, iv (by simp), trivial⟩, ?_, trivial⟩
        · rw [matZ_succ]; rfl
        · rw [matZ_succ]; rfl
    · have hi' : i = n.toNat := by omega
      subst hi'
      show D.tup _ = D.tup _
      rw [rrfz1]; rfl
end Go.Proofs.YtcblkjmnigbiiaaDoor
