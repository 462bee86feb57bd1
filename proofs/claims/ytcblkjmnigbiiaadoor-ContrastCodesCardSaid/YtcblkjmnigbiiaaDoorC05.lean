/-
  Contracts of functions of the program, walked with the abstract layer. Conditions: as each says.
-/
import Derived.Test.YtcblkjmnigbiiaaDoorC04
import Derived.Test.YtcblkjmnigbiiaaDoorGrid
import Derived.KernelRfl
set_option autoImplicit false
set_option linter.unusedVariables false
set_option linter.unusedSimpArgs false
namespace Go.Proofs.YtcblkjmnigbiiaaDoor
open Go.Ab
attribute [local irreducible] awp awpL

theorem entries_at (c n : Int) (h1 : 1 ≤ c) (h2 : c ≤ 4) (h3 : 1 ≤ n) (h4 : n ≤ 32) : ∃ g i, Instr.findNow (.int .i64) (.int .i64 c) ents.toList 0 = some (some (i, .func (.func g) #[] #[])) ∧ ∀ row col : Int, 0 ≤ row → row < 1000 → 0 ≤ col → col < colsZ c n → Ret Tryd.prog g [.int .i64 n, .int .i64 row, .int .i64 col] (· = .int .i64 (entryZ c n row col)) := by
  have hcol : colsZ c n ≤ 32 := by unfold colsZ; split <;> omega
  have hc : c = 1 ∨ c = 2 ∨ c = 3 ∨ c = 4 := by omega
  rcases hc with rfl | rfl | rfl | rfl
  · exact ⟨45, 1, rfl, fun row col a b d e => contrast_e2 n row col a b d (by omega) (by omega) (by omega)⟩
  · refine ⟨46, 2, rfl, fun row col a b d e => contrast_e3 n row col a b d ?_ (by omega) (by omega)⟩
    simpa [colsZ] using e
  · exact ⟨47, 3, rfl, fun row col a b d e => contrast_e4 n row col a b d (by omega) (by omega) (by omega)⟩
  · exact ⟨43, 0, rfl, fun row col a b d e => contrast_e1 n row col a b d (by omega) (by omega) (by omega)⟩

theorem contrast_Matrix (c n : Int) : Ret Tryd.prog 7 [.int .i64 c, .int .i64 n] (· = matD c n) := by
  have hp := contrast_inRange c n
  unfold matD
  cases h : codingOk c n with
  | false =>
    rw [h] at hp
    refine ret_of_awp tab Tryd.func7 rfl rfl (Nat.le_of_ble_eq_true rfl) (fun w0 F0 => ?_)
    repeat' (first
      | refine awp_seq ?_ | refine awp_region ?_ | refine awpL_then ?_ | refine awpL_in ?_
      | (refine isBin ?_; first | refine sShr tab rfl ?_ | refine sQuo tab rfl ?_ | refine sRem tab rfl ?_ | (first | refine sDec tab rfl (fun _ => ?_) (fun _ => ?_) | refine sNdec tab rfl (fun _ => ?_) (fun _ => ?_)) <;> (try (exfalso; first | omega | (rename_i hq; exact hq rfl) | (rename_i hq; exact Bool.noConfusion hq))) | refine sWrap tab rfl ?_ | refine sBool tab rfl (fun e => ?_) (fun e => ?_) <;> (first | (exfalso; exact Bool.noConfusion e) | (revert e; first | refine tt_in ?_ | refine ff_in ?_) | skip) | refine sStep tab rfl ?_)
      | (refine isConv ?_; first | refine sConv tab rfl ?_ | refine sConvR tab rfl rfl ?_ | refine sStep tab rfl ?_)
      | (refine isUn ?_; first | refine sNot tab rfl (fun e => ?_) (fun e => ?_) <;> (first | (exfalso; exact Bool.noConfusion e) | (revert e; first | refine tt_in ?_ | refine ff_in ?_) | skip) | refine sUn tab rfl ?_ | refine sUnR tab rfl rfl ?_ | refine sStep tab rfl ?_)
      | (refine isLoad ?_; first | refine sLdu tab rfl ((Nat.mul_one _).trans (Int.toNat_natCast _)) ?_ | refine sLdu tab rfl (Nat.mul_one _) ?_ | (refine awpL_ldr tab rfl (Int.toNat_natCast _) ?_ ?_; (· omega)) | (refine awpL_ldm (f := rsD) [] tab rfl ((Nat.mul_one _).trans (Int.toNat_natCast _)) ?_ ?_; (· omega)) | (refine awpL_ldm (f := D.str) ByteArray.empty tab rfl ((Nat.mul_one _).trans (Int.toNat_natCast _)) ?_ ?_; (· omega)) | refine sStep tab rfl ?_)
      | (refine isSlice ?_; first | refine sTake tab rfl rfl ?_ | refine sDrop tab rfl rfl ?_ | refine sStep tab rfl ?_)
      | (refine isCallF ?_; first | refine awpL_callE rfl rfl rfl rfl rfl rfl (hp) ?_ )
      | (refine isCall ?_; first | (refine awpL_appr tab rfl ?_ (by decide) ?_; (· omega)) | (refine awpL_appm (f := rsD) tab rfl (rfz1 _) ?_ (by decide) ?_; (· omega)) | (refine awpL_appm (f := rsD) tab rfl rfl ?_ (by decide) ?_; (· omega)) | refine sApp tab rfl ?_ | refine sApp0 tab rfl ?_ | refine sStep tab rfl ?_)
      | (refine isMk ?_; first | refine sMk tab rfl (Int.toNat_natCast _) ?_ | refine sMk tab rfl rfl ?_ | refine sStep tab rfl ?_)
      | (refine isStore ?_; first | refine sSt tab rfl (Nat.mul_one _) ?_ | refine sStep tab rfl ?_)
      | (refine isOps ?_; refine sStep tab rfl ?_) | refine awp_block ?_ | refine awp_skip ?_ | (refine awp_exit ?_; show awp _ _ _ _)
      | (refine isCond ?_; refine awp_cond rfl (fun e => ?_) (fun e => ?_) <;> (first | (exfalso; exact Bool.noConfusion e) | (revert e; first | refine tt_in ?_ | refine ff_in ?_) | skip)) | refine awp_ret ⟨_, _, rfl, ok, ?_⟩)
    rfl
  | true =>
    rw [h] at hp
    obtain ⟨b1, b2, b3, b4⟩ := bounds_of h
    have hcol : 0 ≤ colsZ c n ∧ colsZ c n ≤ 32 := by unfold colsZ; split <;> omega
    have hcl := contrast_columns c n (by omega) (by omega)
    obtain ⟨g, ix, hf, hg⟩ := entries_at c n b1 b2 b3 b4
    refine ret_of_awp tab Tryd.func7 rfl rfl (Nat.le_of_ble_eq_true rfl) (fun w0 F0 => ?_)
    repeat' (first
      | refine awp_seq ?_ | refine awp_region ?_ | refine awpL_then ?_ | refine awpL_in ?_
      | (refine isBin ?_; first | refine sShr tab rfl ?_ | refine sQuo tab rfl ?_ | refine sRem tab rfl ?_ | (first | refine sDec tab rfl (fun _ => ?_) (fun _ => ?_) | refine sNdec tab rfl (fun _ => ?_) (fun _ => ?_)) <;> (try (exfalso; first | omega | (rename_i hq; exact hq rfl) | (rename_i hq; exact Bool.noConfusion hq))) | refine sWrap tab rfl ?_ | refine sBool tab rfl (fun e => ?_) (fun e => ?_) <;> (first | (exfalso; exact Bool.noConfusion e) | (revert e; first | refine tt_in ?_ | refine ff_in ?_) | skip) | refine sStep tab rfl ?_)
      | (refine isConv ?_; first | refine sConv tab rfl ?_ | refine sConvR tab rfl rfl ?_ | refine sStep tab rfl ?_)
      | (refine isUn ?_; first | refine sNot tab rfl (fun e => ?_) (fun e => ?_) <;> (first | (exfalso; exact Bool.noConfusion e) | (revert e; first | refine tt_in ?_ | refine ff_in ?_) | skip) | refine sUn tab rfl ?_ | refine sUnR tab rfl rfl ?_ | refine sStep tab rfl ?_)
      | (refine isLoad ?_; first | refine sLdu tab rfl ((Nat.mul_one _).trans (Int.toNat_natCast _)) ?_ | refine sLdu tab rfl (Nat.mul_one _) ?_ | (refine awpL_ldr tab rfl (Int.toNat_natCast _) ?_ ?_; (· omega)) | (refine awpL_ldm (f := rsD) [] tab rfl ((Nat.mul_one _).trans (Int.toNat_natCast _)) ?_ ?_; (· omega)) | (refine awpL_ldm (f := D.str) ByteArray.empty tab rfl ((Nat.mul_one _).trans (Int.toNat_natCast _)) ?_ ?_; (· omega)) | refine sStep tab rfl ?_)
      | (refine isSlice ?_; first | refine sTake tab rfl rfl ?_ | refine sDrop tab rfl rfl ?_ | refine sStep tab rfl ?_)
      | (refine isCallF ?_; first | refine awpL_callE rfl rfl rfl rfl rfl rfl (hp) ?_ )
      | (refine isCall ?_; first | (refine awpL_appr tab rfl ?_ (by decide) ?_; (· omega)) | (refine awpL_appm (f := rsD) tab rfl (rfz1 _) ?_ (by decide) ?_; (· omega)) | (refine awpL_appm (f := rsD) tab rfl rfl ?_ (by decide) ?_; (· omega)) | refine sApp tab rfl ?_ | refine sApp0 tab rfl ?_ | refine sStep tab rfl ?_)
      | (refine isMk ?_; first | refine sMk tab rfl (Int.toNat_natCast _) ?_ | refine sMk tab rfl rfl ?_ | refine sStep tab rfl ?_)
      | (refine isStore ?_; first | refine sSt tab rfl (Nat.mul_one _) ?_ | refine sStep tab rfl ?_)
      | (refine isOps ?_; refine sStep tab rfl ?_) | refine awp_block ?_ | refine awp_skip ?_ | (refine awp_exit ?_; show awp _ _ _ _)
      | (refine isCond ?_; refine awp_cond rfl (fun e => ?_) (fun e => ?_) <;> (first | (exfalso; exact Bool.noConfusion e) | (revert e; first | refine tt_in ?_ | refine ff_in ?_) | skip)) | refine awp_ret ⟨_, _, rfl, ok, ?_⟩)
    refine awpL_lookup entries_lays rfl rfl rfl rfl rfl (Nat.le_of_ble_eq_true rfl) rfl rfl rfl (Nat.le_of_ble_eq_true rfl) (by decide) rfl rfl rfl rfl (Nat.le_of_ble_eq_true rfl) und52 und3 hf ?_
    repeat' (first
      | refine awp_seq ?_ | refine awp_region ?_ | refine awpL_then ?_ | refine awpL_in ?_
      | (refine isBin ?_; first | refine sShr tab rfl ?_ | refine sQuo tab rfl ?_ | refine sRem tab rfl ?_ | (first | refine sDec tab rfl (fun _ => ?_) (fun _ => ?_) | refine sNdec tab rfl (fun _ => ?_) (fun _ => ?_)) <;> (try (exfalso; first | omega | (rename_i hq; exact hq rfl) | (rename_i hq; exact Bool.noConfusion hq))) | refine sWrap tab rfl ?_ | refine sBool tab rfl (fun e => ?_) (fun e => ?_) <;> (first | (exfalso; exact Bool.noConfusion e) | (revert e; first | refine tt_in ?_ | refine ff_in ?_) | skip) | refine sStep tab rfl ?_)
      | (refine isConv ?_; first | refine sConv tab rfl ?_ | refine sConvR tab rfl rfl ?_ | refine sStep tab rfl ?_)
      | (refine isUn ?_; first | refine sNot tab rfl (fun e => ?_) (fun e => ?_) <;> (first | (exfalso; exact Bool.noConfusion e) | (revert e; first | refine tt_in ?_ | refine ff_in ?_) | skip) | refine sUn tab rfl ?_ | refine sUnR tab rfl rfl ?_ | refine sStep tab rfl ?_)
      | (refine isLoad ?_; first | refine sLdu tab rfl ((Nat.mul_one _).trans (Int.toNat_natCast _)) ?_ | refine sLdu tab rfl (Nat.mul_one _) ?_ | (refine awpL_ldr tab rfl (Int.toNat_natCast _) ?_ ?_; (· omega)) | (refine awpL_ldm (f := rsD) [] tab rfl ((Nat.mul_one _).trans (Int.toNat_natCast _)) ?_ ?_; (· omega)) | (refine awpL_ldm (f := D.str) ByteArray.empty tab rfl ((Nat.mul_one _).trans (Int.toNat_natCast _)) ?_ ?_; (· omega)) | refine sStep tab rfl ?_)
      | (refine isSlice ?_; first | refine sTake tab rfl rfl ?_ | refine sDrop tab rfl rfl ?_ | refine sStep tab rfl ?_)
      | (refine isCall ?_; first | (refine awpL_appr tab rfl ?_ (by decide) ?_; (· omega)) | (refine awpL_appm (f := rsD) tab rfl (rfz1 _) ?_ (by decide) ?_; (· omega)) | (refine awpL_appm (f := rsD) tab rfl rfl ?_ (by decide) ?_; (· omega)) | refine sApp tab rfl ?_ | refine sApp0 tab rfl ?_ | refine sStep tab rfl ?_)
      | (refine isMk ?_; first | refine sMk tab rfl (Int.toNat_natCast _) ?_ | refine sMk tab rfl rfl ?_ | refine sStep tab rfl ?_)
      | (refine isStore ?_; first | refine sSt tab rfl (Nat.mul_one _) ?_ | refine sStep tab rfl ?_)
      | (refine isOps ?_; refine sStep tab rfl ?_) | refine awp_block ?_ | refine awp_skip ?_ | (refine awp_exit ?_; show awp _ _ _ _)
      | (refine isCond ?_; refine awp_cond rfl (fun e => ?_) (fun e => ?_) <;> (first | (exfalso; exact Bool.noConfusion e) | (revert e; first | refine tt_in ?_ | refine ff_in ?_) | skip)) | refine awp_ret ⟨_, _, rfl, ok, ?_⟩)
    refine isMk (awpL_mkm tab rfl (by omega) (by omega) (by decide) rfl ?_)
    repeat' (first
      | refine awp_seq ?_ | refine awp_region ?_ | refine awpL_then ?_ | refine awpL_in ?_
      | (refine isBin ?_; first | refine sShr tab rfl ?_ | refine sQuo tab rfl ?_ | refine sRem tab rfl ?_ | (first | refine sDec tab rfl (fun _ => ?_) (fun _ => ?_) | refine sNdec tab rfl (fun _ => ?_) (fun _ => ?_)) <;> (try (exfalso; first | omega | (rename_i hq; exact hq rfl) | (rename_i hq; exact Bool.noConfusion hq))) | refine sWrap tab rfl ?_ | refine sBool tab rfl (fun e => ?_) (fun e => ?_) <;> (first | (exfalso; exact Bool.noConfusion e) | (revert e; first | refine tt_in ?_ | refine ff_in ?_) | skip) | refine sStep tab rfl ?_)
      | (refine isConv ?_; first | refine sConv tab rfl ?_ | refine sConvR tab rfl rfl ?_ | refine sStep tab rfl ?_)
      | (refine isUn ?_; first | refine sNot tab rfl (fun e => ?_) (fun e => ?_) <;> (first | (exfalso; exact Bool.noConfusion e) | (revert e; first | refine tt_in ?_ | refine ff_in ?_) | skip) | refine sUn tab rfl ?_ | refine sUnR tab rfl rfl ?_ | refine sStep tab rfl ?_)
      | (refine isLoad ?_; first | refine sLdu tab rfl ((Nat.mul_one _).trans (Int.toNat_natCast _)) ?_ | refine sLdu tab rfl (Nat.mul_one _) ?_ | (refine awpL_ldr tab rfl (Int.toNat_natCast _) ?_ ?_; (· omega)) | (refine awpL_ldm (f := rsD) [] tab rfl ((Nat.mul_one _).trans (Int.toNat_natCast _)) ?_ ?_; (· omega)) | (refine awpL_ldm (f := D.str) ByteArray.empty tab rfl ((Nat.mul_one _).trans (Int.toNat_natCast _)) ?_ ?_; (· omega)) | refine sStep tab rfl ?_)
      | (refine isSlice ?_; first | refine sTake tab rfl rfl ?_ | refine sDrop tab rfl rfl ?_ | refine sStep tab rfl ?_)
      | (refine isCall ?_; first | (refine awpL_appr tab rfl ?_ (by decide) ?_; (· omega)) | (refine awpL_appm (f := rsD) tab rfl (rfz1 _) ?_ (by decide) ?_; (· omega)) | (refine awpL_appm (f := rsD) tab rfl rfl ?_ (by decide) ?_; (· omega)) | refine sApp tab rfl ?_ | refine sApp0 tab rfl ?_ | refine sStep tab rfl ?_)
      | (refine isMk ?_; first | refine sMk tab rfl (Int.toNat_natCast _) ?_ | refine sMk tab rfl rfl ?_ | refine sStep tab rfl ?_)
      | (refine isStore ?_; first | refine sSt tab rfl (Nat.mul_one _) ?_ | refine sStep tab rfl ?_)
      | (refine isOps ?_; refine sStep tab rfl ?_) | refine awp_block ?_ | refine awp_skip ?_ | (refine awp_exit ?_; show awp _ _ _ _)
      | (refine isCond ?_; refine awp_cond rfl (fun e => ?_) (fun e => ?_) <;> (first | (exfalso; exact Bool.noConfusion e) | (revert e; first | refine tt_in ?_ | refine ff_in ?_) | skip)) | refine awp_ret ⟨_, _, rfl, ok, ?_⟩)
    refine awp_loop2 (fun (i : Nat) (cs : List D) => ([(0, .d (.int .i64 c)), (1, .d (.int .i64 n)), (6, .fn g []), (7, .own 18 n.toNat 33 1), (20, .d (.int .i64 n.toNat)), (21, .d (.int .i64 i))], [(18, .data 33 cs)])) (fun i cs => i ≤ n.toNat ∧ cs.length = n.toNat ∧ cs.take i = (matZ c n i).map rsD) (fun i cs => n.toNat - i) 0 _ ⟨by omega, by simp, rfl⟩ ⟨rfl, rfl, rfl, rfl, rfl, rfl, trivial⟩ ⟨rfl, trivial⟩ (fun i cs hi => ?_)
    obtain ⟨i1, i2, i3⟩ := hi
    repeat' (first
      | refine awp_seq ?_ | refine awp_region ?_ | refine awpL_then ?_ | refine awpL_in ?_
      | (refine isBin ?_; first | refine sShr tab rfl ?_ | refine sQuo tab rfl ?_ | refine sRem tab rfl ?_ | (first | refine sDec tab rfl (fun _ => ?_) (fun _ => ?_) | refine sNdec tab rfl (fun _ => ?_) (fun _ => ?_)) <;> (try (exfalso; first | omega | (rename_i hq; exact hq rfl) | (rename_i hq; exact Bool.noConfusion hq))) | refine sWrap tab rfl ?_ | refine sBool tab rfl (fun e => ?_) (fun e => ?_) <;> (first | (exfalso; exact Bool.noConfusion e) | (revert e; first | refine tt_in ?_ | refine ff_in ?_) | skip) | refine sStep tab rfl ?_)
      | (refine isConv ?_; first | refine sConv tab rfl ?_ | refine sConvR tab rfl rfl ?_ | refine sStep tab rfl ?_)
      | (refine isUn ?_; first | refine sNot tab rfl (fun e => ?_) (fun e => ?_) <;> (first | (exfalso; exact Bool.noConfusion e) | (revert e; first | refine tt_in ?_ | refine ff_in ?_) | skip) | refine sUn tab rfl ?_ | refine sUnR tab rfl rfl ?_ | refine sStep tab rfl ?_)
      | (refine isLoad ?_; first | refine sLdu tab rfl ((Nat.mul_one _).trans (Int.toNat_natCast _)) ?_ | refine sLdu tab rfl (Nat.mul_one _) ?_ | (refine awpL_ldr tab rfl (Int.toNat_natCast _) ?_ ?_; (· omega)) | (refine awpL_ldm (f := rsD) [] tab rfl ((Nat.mul_one _).trans (Int.toNat_natCast _)) ?_ ?_; (· omega)) | (refine awpL_ldm (f := D.str) ByteArray.empty tab rfl ((Nat.mul_one _).trans (Int.toNat_natCast _)) ?_ ?_; (· omega)) | refine sStep tab rfl ?_)
      | (refine isSlice ?_; first | refine sTake tab rfl rfl ?_ | refine sDrop tab rfl rfl ?_ | refine sStep tab rfl ?_)
      | (refine isCallF ?_; first | refine awpL_callE rfl rfl rfl rfl rfl rfl (hcl) ?_ )
      | (refine isCall ?_; first | (refine awpL_appr tab rfl ?_ (by decide) ?_; (· omega)) | (refine awpL_appm (f := rsD) tab rfl (rfz1 _) ?_ (by decide) ?_; (· omega)) | (refine awpL_appm (f := rsD) tab rfl rfl ?_ (by decide) ?_; (· omega)) | refine sApp tab rfl ?_ | refine sApp0 tab rfl ?_ | refine sStep tab rfl ?_)
      | (refine isMk ?_; first | refine sMk tab rfl (Int.toNat_natCast _) ?_ | refine sMk tab rfl rfl ?_ | refine sStep tab rfl ?_)
      | (refine isStore ?_; first | refine sSt tab rfl (Nat.mul_one _) ?_ | refine sStep tab rfl ?_)
      | (refine isOps ?_; refine sStep tab rfl ?_) | refine awp_block ?_ | refine awp_skip ?_ | (refine awp_exit ?_; show awp _ _ _ _)
      | (refine isCond ?_; refine awp_cond rfl (fun e => ?_) (fun e => ?_) <;> (first | (exfalso; exact Bool.noConfusion e) | (revert e; first | refine tt_in ?_ | refine ff_in ?_) | skip)) | refine awp_ret ⟨_, _, rfl, ok, ?_⟩)
    · rename_i hin
      refine isMk (awpL_mkr tab rfl (by omega) (by omega) (by decide) rfl ?_)
      repeat' (first
        | refine awp_seq ?_ | refine awp_region ?_ | refine awpL_then ?_ | refine awpL_in ?_
        | (refine isBin ?_; first | refine sShr tab rfl ?_ | refine sQuo tab rfl ?_ | refine sRem tab rfl ?_ | (first | refine sDec tab rfl (fun _ => ?_) (fun _ => ?_) | refine sNdec tab rfl (fun _ => ?_) (fun _ => ?_)) <;> (try (exfalso; first | omega | (rename_i hq; exact hq rfl) | (rename_i hq; exact Bool.noConfusion hq))) | refine sWrap tab rfl ?_ | refine sBool tab rfl (fun e => ?_) (fun e => ?_) <;> (first | (exfalso; exact Bool.noConfusion e) | (revert e; first | refine tt_in ?_ | refine ff_in ?_) | skip) | refine sStep tab rfl ?_)
        | (refine isConv ?_; first | refine sConv tab rfl ?_ | refine sConvR tab rfl rfl ?_ | refine sStep tab rfl ?_)
        | (refine isUn ?_; first | refine sNot tab rfl (fun e => ?_) (fun e => ?_) <;> (first | (exfalso; exact Bool.noConfusion e) | (revert e; first | refine tt_in ?_ | refine ff_in ?_) | skip) | refine sUn tab rfl ?_ | refine sUnR tab rfl rfl ?_ | refine sStep tab rfl ?_)
        | (refine isLoad ?_; first | refine sLdu tab rfl ((Nat.mul_one _).trans (Int.toNat_natCast _)) ?_ | refine sLdu tab rfl (Nat.mul_one _) ?_ | (refine awpL_ldr tab rfl (Int.toNat_natCast _) ?_ ?_; (· omega)) | (refine awpL_ldm (f := rsD) [] tab rfl ((Nat.mul_one _).trans (Int.toNat_natCast _)) ?_ ?_; (· omega)) | (refine awpL_ldm (f := D.str) ByteArray.empty tab rfl ((Nat.mul_one _).trans (Int.toNat_natCast _)) ?_ ?_; (· omega)) | refine sStep tab rfl ?_)
        | (refine isSlice ?_; first | refine sTake tab rfl rfl ?_ | refine sDrop tab rfl rfl ?_ | refine sStep tab rfl ?_)
        | (refine isCall ?_; first | (refine awpL_appr tab rfl ?_ (by decide) ?_; (· omega)) | (refine awpL_appm (f := rsD) tab rfl (rfz1 _) ?_ (by decide) ?_; (· omega)) | (refine awpL_appm (f := rsD) tab rfl rfl ?_ (by decide) ?_; (· omega)) | refine sApp tab rfl ?_ | refine sApp0 tab rfl ?_ | refine sStep tab rfl ?_)
        | (refine isMk ?_; first | refine sMk tab rfl (Int.toNat_natCast _) ?_ | refine sMk tab rfl rfl ?_ | refine sStep tab rfl ?_)
        | (refine isStore ?_; first | refine sSt tab rfl (Nat.mul_one _) ?_ | refine sStep tab rfl ?_)
        | (refine isOps ?_; refine sStep tab rfl ?_) | refine awp_block ?_ | refine awp_skip ?_ | (refine awp_exit ?_; show awp _ _ _ _)
        | (refine isCond ?_; refine awp_cond rfl (fun e => ?_) (fun e => ?_) <;> (first | (exfalso; exact Bool.noConfusion e) | (revert e; first | refine tt_in ?_ | refine ff_in ?_) | skip)) | refine awp_ret ⟨_, _, rfl, ok, ?_⟩)
      have hci : i * 1 + 1 ≤ (cs.map V.d).length := by simp; omega
      have hci' : i * 1 < (cs.map V.d).length := by simp; omega
      refine awpL_reblk (k := 18) (b := .data 33 cs) rfl (toBox (by omega)) ?_
      refine awpL_step tab rfl ⟨hci, rfl⟩ ?_
      repeat' (first
        | refine awp_seq ?_ | refine awp_region ?_ | refine awpL_then ?_ | refine awpL_in ?_
        | (refine isBin ?_; first | refine sShr tab rfl ?_ | refine sQuo tab rfl ?_ | refine sRem tab rfl ?_ | (first | refine sDec tab rfl (fun _ => ?_) (fun _ => ?_) | refine sNdec tab rfl (fun _ => ?_) (fun _ => ?_)) <;> (try (exfalso; first | omega | (rename_i hq; exact hq rfl) | (rename_i hq; exact Bool.noConfusion hq))) | refine sWrap tab rfl ?_ | refine sBool tab rfl (fun e => ?_) (fun e => ?_) <;> (first | (exfalso; exact Bool.noConfusion e) | (revert e; first | refine tt_in ?_ | refine ff_in ?_) | skip) | refine sStep tab rfl ?_)
        | (refine isConv ?_; first | refine sConv tab rfl ?_ | refine sConvR tab rfl rfl ?_ | refine sStep tab rfl ?_)
        | (refine isUn ?_; first | refine sNot tab rfl (fun e => ?_) (fun e => ?_) <;> (first | (exfalso; exact Bool.noConfusion e) | (revert e; first | refine tt_in ?_ | refine ff_in ?_) | skip) | refine sUn tab rfl ?_ | refine sUnR tab rfl rfl ?_ | refine sStep tab rfl ?_)
        | (refine isLoad ?_; first | refine sLdu tab rfl ((Nat.mul_one _).trans (Int.toNat_natCast _)) ?_ | refine sLdu tab rfl (Nat.mul_one _) ?_ | (refine awpL_ldr tab rfl (Int.toNat_natCast _) ?_ ?_; (· omega)) | (refine awpL_ldm (f := rsD) [] tab rfl ((Nat.mul_one _).trans (Int.toNat_natCast _)) ?_ ?_; (· omega)) | (refine awpL_ldm (f := D.str) ByteArray.empty tab rfl ((Nat.mul_one _).trans (Int.toNat_natCast _)) ?_ ?_; (· omega)) | refine sStep tab rfl ?_)
        | (refine isSlice ?_; first | refine sTake tab rfl rfl ?_ | refine sDrop tab rfl rfl ?_ | refine sStep tab rfl ?_)
        | (refine isCall ?_; first | (refine awpL_appr tab rfl ?_ (by decide) ?_; (· omega)) | (refine awpL_appm (f := rsD) tab rfl (rfz1 _) ?_ (by decide) ?_; (· omega)) | (refine awpL_appm (f := rsD) tab rfl rfl ?_ (by decide) ?_; (· omega)) | refine sApp tab rfl ?_ | refine sApp0 tab rfl ?_ | refine sStep tab rfl ?_)
        | (refine isMk ?_; first | refine sMk tab rfl (Int.toNat_natCast _) ?_ | refine sMk tab rfl rfl ?_ | refine sStep tab rfl ?_)
        | (refine isStore ?_; first | refine sSt tab rfl (Nat.mul_one _) ?_ | refine sStep tab rfl ?_)
        | (refine isOps ?_; refine sStep tab rfl ?_) | refine awp_block ?_ | refine awp_skip ?_ | (refine awp_exit ?_; show awp _ _ _ _)
        | (refine isCond ?_; refine awp_cond rfl (fun e => ?_) (fun e => ?_) <;> (first | (exfalso; exact Bool.noConfusion e) | (revert e; first | refine tt_in ?_ | refine ff_in ?_) | skip)) | refine awp_ret ⟨_, _, rfl, ok, ?_⟩)
      refine awpL_quiet (y' := .own 29 (colsZ c n).toNat 44 3) tab rfl rfl rfl ?_ (splice_at _ _ _ _ hci') ?_
      · show i * 1 < (splice (cs.map V.d) (i * 1) [V.own 29 (colsZ c n).toNat 44 3]).length
        rw [splice_set _ _ _ hci']; simp; omega
      repeat' (first
        | refine awp_seq ?_ | refine awp_region ?_ | refine awpL_then ?_ | refine awpL_in ?_
        | (refine isBin ?_; first | refine sShr tab rfl ?_ | refine sQuo tab rfl ?_ | refine sRem tab rfl ?_ | (first | refine sDec tab rfl (fun _ => ?_) (fun _ => ?_) | refine sNdec tab rfl (fun _ => ?_) (fun _ => ?_)) <;> (try (exfalso; first | omega | (rename_i hq; exact hq rfl) | (rename_i hq; exact Bool.noConfusion hq))) | refine sWrap tab rfl ?_ | refine sBool tab rfl (fun e => ?_) (fun e => ?_) <;> (first | (exfalso; exact Bool.noConfusion e) | (revert e; first | refine tt_in ?_ | refine ff_in ?_) | skip) | refine sStep tab rfl ?_)
        | (refine isConv ?_; first | refine sConv tab rfl ?_ | refine sConvR tab rfl rfl ?_ | refine sStep tab rfl ?_)
        | (refine isUn ?_; first | refine sNot tab rfl (fun e => ?_) (fun e => ?_) <;> (first | (exfalso; exact Bool.noConfusion e) | (revert e; first | refine tt_in ?_ | refine ff_in ?_) | skip) | refine sUn tab rfl ?_ | refine sUnR tab rfl rfl ?_ | refine sStep tab rfl ?_)
        | (refine isLoad ?_; first | refine sLdu tab rfl ((Nat.mul_one _).trans (Int.toNat_natCast _)) ?_ | refine sLdu tab rfl (Nat.mul_one _) ?_ | (refine awpL_ldr tab rfl (Int.toNat_natCast _) ?_ ?_; (· omega)) | (refine awpL_ldm (f := rsD) [] tab rfl ((Nat.mul_one _).trans (Int.toNat_natCast _)) ?_ ?_; (· omega)) | (refine awpL_ldm (f := D.str) ByteArray.empty tab rfl ((Nat.mul_one _).trans (Int.toNat_natCast _)) ?_ ?_; (· omega)) | refine sStep tab rfl ?_)
        | (refine isSlice ?_; first | refine sTake tab rfl rfl ?_ | refine sDrop tab rfl rfl ?_ | refine sStep tab rfl ?_)
        | (refine isCall ?_; first | (refine awpL_appr tab rfl ?_ (by decide) ?_; (· omega)) | (refine awpL_appm (f := rsD) tab rfl (rfz1 _) ?_ (by decide) ?_; (· omega)) | (refine awpL_appm (f := rsD) tab rfl rfl ?_ (by decide) ?_; (· omega)) | refine sApp tab rfl ?_ | refine sApp0 tab rfl ?_ | refine sStep tab rfl ?_)
        | (refine isMk ?_; first | refine sMk tab rfl (Int.toNat_natCast _) ?_ | refine sMk tab rfl rfl ?_ | refine sStep tab rfl ?_)
        | (refine isStore ?_; first | refine sSt tab rfl (Nat.mul_one _) ?_ | refine sStep tab rfl ?_)
        | (refine isOps ?_; refine sStep tab rfl ?_) | refine awp_block ?_ | refine awp_skip ?_ | (refine awp_exit ?_; show awp _ _ _ _)
        | (refine isCond ?_; refine awp_cond rfl (fun e => ?_) (fun e => ?_) <;> (first | (exfalso; exact Bool.noConfusion e) | (revert e; first | refine tt_in ?_ | refine ff_in ?_) | skip)) | refine awp_ret ⟨_, _, rfl, ok, ?_⟩)
      refine awp_loop2 (fun (j : Nat) (L : List R3) => ([(0, .d (.int .i64 c)), (1, .d (.int .i64 n)), (6, .fn g []), (7, .own 18 n.toNat 33 1), (8, .d (.int .i64 i)), (20, .d (.int .i64 n.toNat)), (21, .d (.int .i64 i)), (35, .d (.int .i64 (colsZ c n).toNat)), (36, .d (.int .i64 j))], [(18, .box 33 (splice (cs.map V.d) (i * 1) [V.own 29 (colsZ c n).toNat 44 3])), (29, .data 44 (L.flatMap rC))])) (fun j L => j ≤ (colsZ c n).toNat ∧ L.length = (colsZ c n).toNat ∧ L.take j = rowZ c n i j) (fun j L => (colsZ c n).toNat - j) 0 _ ⟨by omega, by simp, rfl⟩ ⟨rfl, rfl, rfl, rfl, rfl, rfl, rfl, rfl, rfl, trivial⟩ ⟨rfl, rfl, trivial⟩ (fun j L hj => ?_)
      obtain ⟨j1, j2, j3⟩ := hj
      have hbox : i * 1 < (splice (cs.map V.d) (i * 1) [V.own 29 (colsZ c n).toNat 44 3]).length := by
        rw [splice_set _ _ _ hci']; simp; omega
      repeat' (first
        | refine awp_seq ?_ | refine awp_region ?_ | refine awpL_then ?_ | refine awpL_in ?_
        | (refine isBin ?_; first | refine sShr tab rfl ?_ | refine sQuo tab rfl ?_ | refine sRem tab rfl ?_ | (first | refine sDec tab rfl (fun _ => ?_) (fun _ => ?_) | refine sNdec tab rfl (fun _ => ?_) (fun _ => ?_)) <;> (try (exfalso; first | omega | (rename_i hq; exact hq rfl) | (rename_i hq; exact Bool.noConfusion hq))) | refine sWrap tab rfl ?_ | refine sBool tab rfl (fun e => ?_) (fun e => ?_) <;> (first | (exfalso; exact Bool.noConfusion e) | (revert e; first | refine tt_in ?_ | refine ff_in ?_) | skip) | refine sStep tab rfl ?_)
        | (refine isConv ?_; first | refine sConv tab rfl ?_ | refine sConvR tab rfl rfl ?_ | refine sStep tab rfl ?_)
        | (refine isUn ?_; first | refine sNot tab rfl (fun e => ?_) (fun e => ?_) <;> (first | (exfalso; exact Bool.noConfusion e) | (revert e; first | refine tt_in ?_ | refine ff_in ?_) | skip) | refine sUn tab rfl ?_ | refine sUnR tab rfl rfl ?_ | refine sStep tab rfl ?_)
        | (refine isLoad ?_; first | refine sLdu tab rfl ((Nat.mul_one _).trans (Int.toNat_natCast _)) ?_ | refine sLdu tab rfl (Nat.mul_one _) ?_ | (refine awpL_ldr tab rfl (Int.toNat_natCast _) ?_ ?_; (· omega)) | (refine awpL_ldm (f := rsD) [] tab rfl ((Nat.mul_one _).trans (Int.toNat_natCast _)) ?_ ?_; (· omega)) | (refine awpL_ldm (f := D.str) ByteArray.empty tab rfl ((Nat.mul_one _).trans (Int.toNat_natCast _)) ?_ ?_; (· omega)) | refine sStep tab rfl ?_)
        | (refine isSlice ?_; first | refine sTake tab rfl rfl ?_ | refine sDrop tab rfl rfl ?_ | refine sStep tab rfl ?_)
        | (refine isCall ?_; first | (refine awpL_appr tab rfl ?_ (by decide) ?_; (· omega)) | (refine awpL_appm (f := rsD) tab rfl (rfz1 _) ?_ (by decide) ?_; (· omega)) | (refine awpL_appm (f := rsD) tab rfl rfl ?_ (by decide) ?_; (· omega)) | refine sApp tab rfl ?_ | refine sApp0 tab rfl ?_ | refine sStep tab rfl ?_)
        | (refine isMk ?_; first | refine sMk tab rfl (Int.toNat_natCast _) ?_ | refine sMk tab rfl rfl ?_ | refine sStep tab rfl ?_)
        | (refine isStore ?_; first | refine sSt tab rfl (Nat.mul_one _) ?_ | refine sStep tab rfl ?_)
        | (refine isOps ?_; refine sStep tab rfl ?_) | refine awp_block ?_ | refine awp_skip ?_
        | (refine isCond ?_; refine awp_cond rfl (fun e => ?_) (fun e => ?_) <;> (first | (exfalso; exact Bool.noConfusion e) | (revert e; first | refine tt_in ?_ | refine ff_in ?_) | skip)) | refine awp_ret ⟨_, _, rfl, ok, ?_⟩)
      · rename_i hjc
        have he := entryZ_bound (c := c) (n := n) (i := i) (j := j) (by omega) (by omega) (by omega) (by omega)
        refine awp_region_mono tab mixed 12 (by kernel_rfl) (s1 := ?s1) ?run1 ?tail1
        case run1 =>
          repeat' (first
            | exact MRun.nil
            | (refine MRun.cons rfl rfl (Mono1.toQ (x' := .own 29 (colsZ c n).toNat 44 3) rfl rfl hbox (splice_at _ _ _ _ hci')) ?_)
            | refine mOff rfl rfl ?_ | refine mWrap rfl rfl rfl ?_ | refine mLdu rfl rfl rfl ((Nat.mul_one _).trans (Int.toNat_natCast _)) ?_ | refine mLdu rfl rfl rfl (Nat.mul_one _) ?_
            | (refine MRun.cons rfl rfl (Mono1.ldr rfl rfl (Int.toNat_natCast _) ?_) ?_; (· omega)) | (refine MRun.cons rfl rfl (Mono1.ldm (f := rsD) [] rfl rfl ((Nat.mul_one _).trans (Int.toNat_natCast _)) ?_) ?_; (· omega)) | (refine MRun.cons rfl rfl (Mono1.ldm (f := D.str) ByteArray.empty rfl rfl ((Nat.mul_one _).trans (Int.toNat_natCast _)) ?_) ?_; (· omega))
            | refine mQuiet rfl rfl rfl ?_ | refine mLit rfl rfl rfl ?_
            | refine MRun.cons rfl rfl (Mono1.call rfl rfl rfl rfl (hg _ _ (by omega) (by omega) (by omega) (by omega))) ?_
            | refine MRun.cons rfl rfl (Mono1.call rfl rfl rfl rfl (rational_FromInt _ (by omega) (by omega))) ?_)
        refine isStore (awpL_str tab rfl (Int.toNat_natCast _) (by omega) ?_)
        repeat' (first
          | refine awp_seq ?_ | refine awp_region ?_ | refine awpL_then ?_ | refine awpL_in ?_
          | (refine isBin ?_; first | refine sShr tab rfl ?_ | refine sQuo tab rfl ?_ | refine sRem tab rfl ?_ | (first | refine sDec tab rfl (fun _ => ?_) (fun _ => ?_) | refine sNdec tab rfl (fun _ => ?_) (fun _ => ?_)) <;> (try (exfalso; first | omega | (rename_i hq; exact hq rfl) | (rename_i hq; exact Bool.noConfusion hq))) | refine sWrap tab rfl ?_ | refine sBool tab rfl (fun e => ?_) (fun e => ?_) <;> (first | (exfalso; exact Bool.noConfusion e) | (revert e; first | refine tt_in ?_ | refine ff_in ?_) | skip) | refine sStep tab rfl ?_)
          | (refine isConv ?_; first | refine sConv tab rfl ?_ | refine sConvR tab rfl rfl ?_ | refine sStep tab rfl ?_)
          | (refine isUn ?_; first | refine sNot tab rfl (fun e => ?_) (fun e => ?_) <;> (first | (exfalso; exact Bool.noConfusion e) | (revert e; first | refine tt_in ?_ | refine ff_in ?_) | skip) | refine sUn tab rfl ?_ | refine sUnR tab rfl rfl ?_ | refine sStep tab rfl ?_)
          | (refine isLoad ?_; first | refine sLdu tab rfl ((Nat.mul_one _).trans (Int.toNat_natCast _)) ?_ | refine sLdu tab rfl (Nat.mul_one _) ?_ | (refine awpL_ldr tab rfl (Int.toNat_natCast _) ?_ ?_; (· omega)) | (refine awpL_ldm (f := rsD) [] tab rfl ((Nat.mul_one _).trans (Int.toNat_natCast _)) ?_ ?_; (· omega)) | (refine awpL_ldm (f := D.str) ByteArray.empty tab rfl ((Nat.mul_one _).trans (Int.toNat_natCast _)) ?_ ?_; (· omega)) | refine sStep tab rfl ?_)
          | (refine isSlice ?_; first | refine sTake tab rfl rfl ?_ | refine sDrop tab rfl rfl ?_ | refine sStep tab rfl ?_)
          | (refine isCall ?_; first | (refine awpL_appr tab rfl ?_ (by decide) ?_; (· omega)) | (refine awpL_appm (f := rsD) tab rfl (rfz1 _) ?_ (by decide) ?_; (· omega)) | (refine awpL_appm (f := rsD) tab rfl rfl ?_ (by decide) ?_; (· omega)) | refine sApp tab rfl ?_ | refine sApp0 tab rfl ?_ | refine sStep tab rfl ?_)
          | (refine isMk ?_; first | refine sMk tab rfl (Int.toNat_natCast _) ?_ | refine sMk tab rfl rfl ?_ | refine sStep tab rfl ?_)
          | (refine isStore ?_; first | refine sSt tab rfl (Nat.mul_one _) ?_ | refine sStep tab rfl ?_)
          | (refine isOps ?_; refine sStep tab rfl ?_) | refine awp_block ?_ | refine awp_skip ?_ | (refine awp_exit ?_; show awp _ _ _ _)
          | (refine isCond ?_; refine awp_cond rfl (fun e => ?_) (fun e => ?_) <;> (first | (exfalso; exact Bool.noConfusion e) | (revert e; first | refine tt_in ?_ | refine ff_in ?_) | skip)) | refine awp_ret ⟨_, _, rfl, ok, ?_⟩)
        refine ⟨j + 1, L.set j (zR (entryZ c n i j)), ⟨by omega, by simp; omega, ?_⟩, by omega, ⟨rfl, rfl, rfl, rfl, rfl, rfl, rfl, rfl, iv (by omega), trivial⟩, rfl, rfl, trivial⟩
        rw [take_set_snoc _ _ _ (by omega), j3, rowZ_succ]
      · rename_i hjc
        have hjc' : j = (colsZ c n).toNat := by omega
        rw [List.take_of_length_le (by omega)] at j3
        have hrow := frzL_row 29 (L.flatMap rC) cs (i * 1) (colsZ c n).toNat 44 3 (by omega)
        rw [← j2, rfz1, j2] at hrow
        refine awp_exit ?_
        show awp _ _ _ _
        refine awp_freeze (fun _ h => h) 29 rfl ?_
        refine awp_reblk (k := 18) rfl (toData hrow) ?_
        repeat' (first
          | refine awp_seq ?_ | refine awp_region ?_ | refine awpL_then ?_ | refine awpL_in ?_
          | (refine isBin ?_; first | refine sShr tab rfl ?_ | refine sQuo tab rfl ?_ | refine sRem tab rfl ?_ | (first | refine sDec tab rfl (fun _ => ?_) (fun _ => ?_) | refine sNdec tab rfl (fun _ => ?_) (fun _ => ?_)) <;> (try (exfalso; first | omega | (rename_i hq; exact hq rfl) | (rename_i hq; exact Bool.noConfusion hq))) | refine sWrap tab rfl ?_ | refine sBool tab rfl (fun e => ?_) (fun e => ?_) <;> (first | (exfalso; exact Bool.noConfusion e) | (revert e; first | refine tt_in ?_ | refine ff_in ?_) | skip) | refine sStep tab rfl ?_)
          | (refine isConv ?_; first | refine sConv tab rfl ?_ | refine sConvR tab rfl rfl ?_ | refine sStep tab rfl ?_)
          | (refine isUn ?_; first | refine sNot tab rfl (fun e => ?_) (fun e => ?_) <;> (first | (exfalso; exact Bool.noConfusion e) | (revert e; first | refine tt_in ?_ | refine ff_in ?_) | skip) | refine sUn tab rfl ?_ | refine sUnR tab rfl rfl ?_ | refine sStep tab rfl ?_)
          | (refine isLoad ?_; first | refine sLdu tab rfl ((Nat.mul_one _).trans (Int.toNat_natCast _)) ?_ | refine sLdu tab rfl (Nat.mul_one _) ?_ | (refine awpL_ldr tab rfl (Int.toNat_natCast _) ?_ ?_; (· omega)) | (refine awpL_ldm (f := rsD) [] tab rfl ((Nat.mul_one _).trans (Int.toNat_natCast _)) ?_ ?_; (· omega)) | (refine awpL_ldm (f := D.str) ByteArray.empty tab rfl ((Nat.mul_one _).trans (Int.toNat_natCast _)) ?_ ?_; (· omega)) | refine sStep tab rfl ?_)
          | (refine isSlice ?_; first | refine sTake tab rfl rfl ?_ | refine sDrop tab rfl rfl ?_ | refine sStep tab rfl ?_)
          | (refine isCall ?_; first | (refine awpL_appr tab rfl ?_ (by decide) ?_; (· omega)) | (refine awpL_appm (f := rsD) tab rfl (rfz1 _) ?_ (by decide) ?_; (· omega)) | (refine awpL_appm (f := rsD) tab rfl rfl ?_ (by decide) ?_; (· omega)) | refine sApp tab rfl ?_ | refine sApp0 tab rfl ?_ | refine sStep tab rfl ?_)
          | (refine isMk ?_; first | refine sMk tab rfl (Int.toNat_natCast _) ?_ | refine sMk tab rfl rfl ?_ | refine sStep tab rfl ?_)
          | (refine isStore ?_; first | refine sSt tab rfl (Nat.mul_one _) ?_ | refine sStep tab rfl ?_)
          | (refine isOps ?_; refine sStep tab rfl ?_) | refine awp_block ?_ | refine awp_skip ?_ | (refine awp_exit ?_; show awp _ _ _ _)
          | (refine isCond ?_; refine awp_cond rfl (fun e => ?_) (fun e => ?_) <;> (first | (exfalso; exact Bool.noConfusion e) | (revert e; first | refine tt_in ?_ | refine ff_in ?_) | skip)) | refine awp_ret ⟨_, _, rfl, ok, ?_⟩)
        refine ⟨i + 1, cs.set i (rsD L), ⟨by omega, by simp; omega, ?_⟩, by omega, ⟨rfl, rfl, rfl, rfl, rfl, iv (by omega), trivial⟩, ?_, trivial⟩
        · rw [take_set_snoc _ _ _ (by omega), i3, matZ_succ, j3, hjc']; simp
        · rw [Nat.mul_one]; rfl
    · have hin : i = n.toNat := by omega
      subst hin
      show D.tup _ = D.tup _
      rw [List.take_of_length_le (by omega)] at i3
      rw [List.take_of_length_le (by omega), i3, rssD, matZ_length]; rfl
end Go.Proofs.YtcblkjmnigbiiaaDoor
