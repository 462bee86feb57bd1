/-
  Contracts of functions of the program, walked with the abstract layer. Conditions: as each says.
-/
import Derived.Test.YtcblkjmnigbiiaaDoorC05
import Derived.KernelRfl
set_option autoImplicit false
set_option linter.unusedVariables false
set_option linter.unusedSimpArgs false
namespace Go.Proofs.YtcblkjmnigbiiaaDoor
open Go.Ab
attribute [local irreducible] awp awpL

theorem names_ab : Ret Tryd.prog 11 [.int .i64 1, .sl 2 [.str ⟨#[97]⟩, .str ⟨#[98]⟩]] (· = .tup [.sl 1 [.str ⟨#[61, 98]⟩], .int .i64 0]) := by
  have hp := contrast_inRange 1 2
  have hc := contrast_columns 1 2 (by decide) (by decide)
  rw [show colsZ 1 2 = 1 from rfl] at hc
  rw [show codingOk 1 2 = true from rfl] at hp
  refine ret_of_awp tab Tryd.func11 rfl rfl (Nat.le_of_ble_eq_true rfl) (fun w0 F0 => ?_)
  repeat' (first
    | refine awp_seq ?_ | refine awp_region ?_ | refine awpL_then ?_ | refine awpL_in ?_
    | (refine isBin ?_; first | refine sShr tab rfl ?_ | refine sQuo tab rfl ?_ | refine sRem tab rfl ?_ | (first | refine sDec tab rfl (fun _ => ?_) (fun _ => ?_) | refine sNdec tab rfl (fun _ => ?_) (fun _ => ?_)) <;> (try (exfalso; first | omega | (rename_i hq; exact hq rfl) | (rename_i hq; exact Bool.noConfusion hq))) | refine sWrap tab rfl ?_ | refine sBool tab rfl (fun e => ?_) (fun e => ?_) <;> (first | (exfalso; exact Bool.noConfusion e) | (revert e; first | refine tt_in ?_ | refine ff_in ?_) | skip) | refine sStep tab rfl ?_)
    | (refine isConv ?_; first | refine sConv tab rfl ?_ | refine sConvR tab rfl rfl ?_ | refine sStep tab rfl ?_)
    | (refine isUn ?_; first | refine sNot tab rfl (fun e => ?_) (fun e => ?_) <;> (first | (exfalso; exact Bool.noConfusion e) | (revert e; first | refine tt_in ?_ | refine ff_in ?_) | skip) | refine sUn tab rfl ?_ | refine sUnR tab rfl rfl ?_ | refine sStep tab rfl ?_)
    | (refine isLoad ?_; first | refine sLdu tab rfl ((Nat.mul_one _).trans (Int.toNat_natCast _)) ?_ | refine sLdu tab rfl (Nat.mul_one _) ?_ | (refine awpL_ldr tab rfl (Int.toNat_natCast _) ?_ ?_; (· omega)) | (refine awpL_ldm (f := rsD) [] tab rfl ((Nat.mul_one _).trans (Int.toNat_natCast _)) ?_ ?_; (· omega)) | (refine awpL_ldm (f := D.str) ByteArray.empty tab rfl ((Nat.mul_one _).trans (Int.toNat_natCast _)) ?_ ?_; (· omega)) | refine sStep tab rfl ?_)
    | (refine isSlice ?_; first | refine sTake tab rfl rfl ?_ | refine sDrop tab rfl rfl ?_ | refine sStep tab rfl ?_)
    | (refine isCallF ?_; first | refine awpL_callE rfl rfl rfl rfl rfl rfl (hp) ?_ | refine awpL_callE rfl rfl rfl rfl rfl rfl (hc) ?_ )
    | (refine isCall ?_; first | (refine awpL_appr tab rfl ?_ (by decide) ?_; (· omega)) | (refine awpL_appm (f := rsD) tab rfl (rfz1 _) ?_ (by decide) ?_; (· omega)) | (refine awpL_appm (f := rsD) tab rfl rfl ?_ (by decide) ?_; (· omega)) | refine sApp tab rfl ?_ | refine sApp0 tab rfl ?_ | refine sStep tab rfl ?_)
    | (refine isMk ?_; first | refine sMk tab rfl (Int.toNat_natCast _) ?_ | refine sMk tab rfl rfl ?_ | refine sStep tab rfl ?_)
    | (refine isStore ?_; first | refine sSt tab rfl (Nat.mul_one _) ?_ | refine sStep tab rfl ?_)
    | (refine isOps ?_; refine sStep tab rfl ?_) | refine awp_block ?_ | refine awp_skip ?_ | (refine awp_exit ?_; show awp _ _ _ _)
    | (refine isCond ?_; refine awp_cond rfl (fun e => ?_) (fun e => ?_) <;> (first | (exfalso; exact Bool.noConfusion e) | (revert e; first | refine tt_in ?_ | refine ff_in ?_) | skip)) | refine awp_ret ⟨_, _, rfl, ok, ?_⟩)
  refine awp_adopt 6 48 9 1 rfl ?_
  refine awp_loop1 (fun i : Nat => ([(0, .d (.int .i64 1)), (1, .d (.sl 2 [.str ⟨#[97]⟩, .str ⟨#[98]⟩])), (6, .own 48 i 9 1), (16, .d (.int .i64 1)), (17, .d (.int .i64 i))], [(48, .data 9 (List.replicate i (.str ⟨#[61, 98]⟩)))])) (fun i => i ≤ 1) (fun i => 1 - i) 0 (by omega) ⟨rfl, rfl, rfl, rfl, rfl, trivial⟩ ⟨rfl, trivial⟩ (fun i hi => ?_)
  have hi' : i = 0 ∨ i = 1 := by omega
  rcases hi' with rfl | rfl
  · repeat' (first
      | refine awp_seq ?_ | refine awp_region ?_ | refine awpL_then ?_ | refine awpL_in ?_
      | (refine isBin ?_; first | refine sShr tab rfl ?_ | refine sQuo tab rfl ?_ | refine sRem tab rfl ?_ | (first | refine sDec tab rfl (fun _ => ?_) (fun _ => ?_) | refine sNdec tab rfl (fun _ => ?_) (fun _ => ?_)) <;> (try (exfalso; first | omega | (rename_i hq; exact hq rfl) | (rename_i hq; exact Bool.noConfusion hq))) | refine sWrap tab rfl ?_ | refine sBool tab rfl (fun e => ?_) (fun e => ?_) <;> (first | (exfalso; exact Bool.noConfusion e) | (revert e; first | refine tt_in ?_ | refine ff_in ?_) | skip) | refine sStep tab rfl ?_)
      | (refine isConv ?_; first | refine sConv tab rfl ?_ | refine sConvR tab rfl rfl ?_ | refine sStep tab rfl ?_)
      | (refine isUn ?_; first | refine sNot tab rfl (fun e => ?_) (fun e => ?_) <;> (first | (exfalso; exact Bool.noConfusion e) | (revert e; first | refine tt_in ?_ | refine ff_in ?_) | skip) | refine sUn tab rfl ?_ | refine sUnR tab rfl rfl ?_ | refine sStep tab rfl ?_)
      | (refine isLoad ?_; first | refine sLdu tab rfl ((Nat.mul_one _).trans (Int.toNat_natCast _)) ?_ | refine sLdu tab rfl (Nat.mul_one _) ?_ | (refine awpL_ldr tab rfl (Int.toNat_natCast _) ?_ ?_; (· omega)) | (refine awpL_ldm (f := rsD) [] tab rfl ((Nat.mul_one _).trans (Int.toNat_natCast _)) ?_ ?_; (· omega)) | (refine awpL_ldm (f := D.str) ByteArray.empty tab rfl ((Nat.mul_one _).trans (Int.toNat_natCast _)) ?_ ?_; (· omega)) | refine sStep tab rfl ?_)
      | (refine isSlice ?_; first | refine sTake tab rfl rfl ?_ | refine sDrop tab rfl rfl ?_ | refine sStep tab rfl ?_)
      | (refine isCall ?_; first | (refine awpL_appr tab rfl ?_ (by decide) ?_; (· omega)) | (refine awpL_appm (f := rsD) tab rfl (rfz1 _) ?_ (by decide) ?_; (· omega)) | (refine awpL_appm (f := rsD) tab rfl rfl ?_ (by decide) ?_; (· omega)) | refine sApp tab rfl ?_ | refine sApp0 tab rfl ?_ | refine sStep tab rfl ?_)
      | (refine isMk ?_; first | refine sMk tab rfl (Int.toNat_natCast _) ?_ | refine sMk tab rfl rfl ?_ | refine sStep tab rfl ?_)
      | (refine isStore ?_; first | refine sSt tab rfl (Nat.mul_one _) ?_ | refine sStep tab rfl ?_)
      | (refine isOps ?_; refine sStep tab rfl ?_) | refine awp_block ?_ | refine awp_skip ?_ | (refine awp_exit ?_; show awp _ _ _ _)
      | (refine isCond ?_; refine awp_cond rfl (fun e => ?_) (fun e => ?_) <;> (first | (exfalso; exact Bool.noConfusion e) | (revert e; first | refine tt_in ?_ | refine ff_in ?_) | skip)) | refine awp_ret ⟨_, _, rfl, ok, ?_⟩)
    refine ⟨1, by omega, by omega, ⟨rfl, rfl, rfl, rfl, rfl, trivial⟩, ?_, trivial⟩
    have e : (⟨#[61]⟩ ++ ⟨#[98]⟩ : ByteArray) = ⟨#[61, 98]⟩ := by decide
    show some (Blk.data 9 ([] ++ [D.str (⟨#[61]⟩ ++ ⟨#[98]⟩ : ByteArray)])) = _
    rw [e]; rfl
  · repeat' (first
      | refine awp_seq ?_ | refine awp_region ?_ | refine awpL_then ?_ | refine awpL_in ?_
      | (refine isBin ?_; first | refine sShr tab rfl ?_ | refine sQuo tab rfl ?_ | refine sRem tab rfl ?_ | (first | refine sDec tab rfl (fun _ => ?_) (fun _ => ?_) | refine sNdec tab rfl (fun _ => ?_) (fun _ => ?_)) <;> (try (exfalso; first | omega | (rename_i hq; exact hq rfl) | (rename_i hq; exact Bool.noConfusion hq))) | refine sWrap tab rfl ?_ | refine sBool tab rfl (fun e => ?_) (fun e => ?_) <;> (first | (exfalso; exact Bool.noConfusion e) | (revert e; first | refine tt_in ?_ | refine ff_in ?_) | skip) | refine sStep tab rfl ?_)
      | (refine isConv ?_; first | refine sConv tab rfl ?_ | refine sConvR tab rfl rfl ?_ | refine sStep tab rfl ?_)
      | (refine isUn ?_; first | refine sNot tab rfl (fun e => ?_) (fun e => ?_) <;> (first | (exfalso; exact Bool.noConfusion e) | (revert e; first | refine tt_in ?_ | refine ff_in ?_) | skip) | refine sUn tab rfl ?_ | refine sUnR tab rfl rfl ?_ | refine sStep tab rfl ?_)
      | (refine isLoad ?_; first | refine sLdu tab rfl ((Nat.mul_one _).trans (Int.toNat_natCast _)) ?_ | refine sLdu tab rfl (Nat.mul_one _) ?_ | (refine awpL_ldr tab rfl (Int.toNat_natCast _) ?_ ?_; (· omega)) | (refine awpL_ldm (f := rsD) [] tab rfl ((Nat.mul_one _).trans (Int.toNat_natCast _)) ?_ ?_; (· omega)) | (refine awpL_ldm (f := D.str) ByteArray.empty tab rfl ((Nat.mul_one _).trans (Int.toNat_natCast _)) ?_ ?_; (· omega)) | refine sStep tab rfl ?_)
      | (refine isSlice ?_; first | refine sTake tab rfl rfl ?_ | refine sDrop tab rfl rfl ?_ | refine sStep tab rfl ?_)
      | (refine isCall ?_; first | (refine awpL_appr tab rfl ?_ (by decide) ?_; (· omega)) | (refine awpL_appm (f := rsD) tab rfl (rfz1 _) ?_ (by decide) ?_; (· omega)) | (refine awpL_appm (f := rsD) tab rfl rfl ?_ (by decide) ?_; (· omega)) | refine sApp tab rfl ?_ | refine sApp0 tab rfl ?_ | refine sStep tab rfl ?_)
      | (refine isMk ?_; first | refine sMk tab rfl (Int.toNat_natCast _) ?_ | refine sMk tab rfl rfl ?_ | refine sStep tab rfl ?_)
      | (refine isStore ?_; first | refine sSt tab rfl (Nat.mul_one _) ?_ | refine sStep tab rfl ?_)
      | (refine isOps ?_; refine sStep tab rfl ?_) | refine awp_block ?_ | refine awp_skip ?_ | (refine awp_exit ?_; show awp _ _ _ _)
      | (refine isCond ?_; refine awp_cond rfl (fun e => ?_) (fun e => ?_) <;> (first | (exfalso; exact Bool.noConfusion e) | (revert e; first | refine tt_in ?_ | refine ff_in ?_) | skip)) | refine awp_ret ⟨_, _, rfl, ok, ?_⟩)
    rfl

theorem ref07_SameList (a b : List ByteArray) (hla : a.length < 100000000000) (hlb : b.length < 100000000000) : Ret Tryd.prog 13 [strsD a, strsD b] (· = .bool (decide (a = b))) := by
  refine ret_of_awp tab Tryd.func13 rfl rfl (Nat.le_of_ble_eq_true rfl) (fun w0 F0 => ?_)
  repeat' (first
    | refine awp_seq ?_ | refine awp_region ?_ | refine awpL_then ?_ | refine awpL_in ?_
    | (refine isBin ?_; first | refine sShr tab rfl ?_ | refine sQuo tab rfl ?_ | refine sRem tab rfl ?_ | (first | refine sDec tab rfl (fun _ => ?_) (fun _ => ?_) | refine sNdec tab rfl (fun _ => ?_) (fun _ => ?_)) <;> (try (exfalso; first | omega | (rename_i hq; exact hq rfl) | (rename_i hq; exact Bool.noConfusion hq))) | refine sWrap tab rfl ?_ | refine sBool tab rfl (fun e => ?_) (fun e => ?_) <;> (first | (exfalso; exact Bool.noConfusion e) | (revert e; first | refine tt_in ?_ | refine ff_in ?_) | skip) | refine sStep tab rfl ?_)
    | (refine isConv ?_; first | refine sConv tab rfl ?_ | refine sConvR tab rfl rfl ?_ | refine sStep tab rfl ?_)
    | (refine isUn ?_; first | refine sNot tab rfl (fun e => ?_) (fun e => ?_) <;> (first | (exfalso; exact Bool.noConfusion e) | (revert e; first | refine tt_in ?_ | refine ff_in ?_) | skip) | refine sUn tab rfl ?_ | refine sUnR tab rfl rfl ?_ | refine sStep tab rfl ?_)
    | (refine isLoad ?_; first | refine sLdu tab rfl ((Nat.mul_one _).trans (Int.toNat_natCast _)) ?_ | refine sLdu tab rfl (Nat.mul_one _) ?_ | (refine awpL_ldr tab rfl (Int.toNat_natCast _) ?_ ?_; (· omega)) | (refine awpL_ldm (f := rsD) [] tab rfl ((Nat.mul_one _).trans (Int.toNat_natCast _)) ?_ ?_; (· omega)) | (refine awpL_ldm (f := D.str) ByteArray.empty tab rfl ((Nat.mul_one _).trans (Int.toNat_natCast _)) ?_ ?_; (· omega)) | refine sStep tab rfl ?_)
    | (refine isSlice ?_; first | refine sTake tab rfl rfl ?_ | refine sDrop tab rfl rfl ?_ | refine sStep tab rfl ?_)
    | (refine isCall ?_; first | (refine awpL_appr tab rfl ?_ (by decide) ?_; (· omega)) | (refine awpL_appm (f := rsD) tab rfl (rfz1 _) ?_ (by decide) ?_; (· omega)) | (refine awpL_appm (f := rsD) tab rfl rfl ?_ (by decide) ?_; (· omega)) | refine sApp tab rfl ?_ | refine sApp0 tab rfl ?_ | refine sStep tab rfl ?_)
    | (refine isMk ?_; first | refine sMk tab rfl (Int.toNat_natCast _) ?_ | refine sMk tab rfl rfl ?_ | refine sStep tab rfl ?_)
    | (refine isStore ?_; first | refine sSt tab rfl (Nat.mul_one _) ?_ | refine sStep tab rfl ?_)
    | (refine isOps ?_; refine sStep tab rfl ?_) | refine awp_block ?_ | refine awp_skip ?_ | (refine awp_exit ?_; show awp _ _ _ _)
    | (refine isCond ?_; refine awp_cond rfl (fun e => ?_) (fun e => ?_) <;> (first | (exfalso; exact Bool.noConfusion e) | (revert e; first | refine tt_in ?_ | refine ff_in ?_) | skip)) | refine awp_ret ⟨_, _, rfl, ok, ?_⟩)
  · rename_i h
    rw [decide_eq_false (fun e => h (by rw [e]))]; rfl
  rename_i h
  refine awp_loop1 (fun (i : Nat) => ([(0, .d (strsD a)), (1, .d (strsD b)), (5, .d (.int .i64 i))], [])) (fun i => i ≤ a.length ∧ a.take i = b.take i) (fun i => a.length - i) 0 ⟨by simp, by simp⟩ ⟨rfl, rfl, rfl, trivial⟩ trivial (fun i hi => ?_)
  obtain ⟨h1, h2⟩ := hi
  repeat' (first
    | refine awp_seq ?_ | refine awp_region ?_ | refine awpL_then ?_ | refine awpL_in ?_
    | (refine isBin ?_; first | refine sShr tab rfl ?_ | refine sQuo tab rfl ?_ | refine sRem tab rfl ?_ | (first | refine sDec tab rfl (fun _ => ?_) (fun _ => ?_) | refine sNdec tab rfl (fun _ => ?_) (fun _ => ?_)) <;> (try (exfalso; first | omega | (rename_i hq; exact hq rfl) | (rename_i hq; exact Bool.noConfusion hq))) | refine sWrap tab rfl ?_ | refine sBool tab rfl (fun e => ?_) (fun e => ?_) <;> (first | (exfalso; exact Bool.noConfusion e) | (revert e; first | refine tt_in ?_ | refine ff_in ?_) | skip) | refine sStep tab rfl ?_)
    | (refine isConv ?_; first | refine sConv tab rfl ?_ | refine sConvR tab rfl rfl ?_ | refine sStep tab rfl ?_)
    | (refine isUn ?_; first | refine sNot tab rfl (fun e => ?_) (fun e => ?_) <;> (first | (exfalso; exact Bool.noConfusion e) | (revert e; first | refine tt_in ?_ | refine ff_in ?_) | skip) | refine sUn tab rfl ?_ | refine sUnR tab rfl rfl ?_ | refine sStep tab rfl ?_)
    | (refine isLoad ?_; first | refine sLdu tab rfl ((Nat.mul_one _).trans (Int.toNat_natCast _)) ?_ | refine sLdu tab rfl (Nat.mul_one _) ?_ | (refine awpL_ldr tab rfl (Int.toNat_natCast _) ?_ ?_; (· omega)) | (refine awpL_ldm (f := rsD) [] tab rfl ((Nat.mul_one _).trans (Int.toNat_natCast _)) ?_ ?_; (· omega)) | (refine awpL_ldm (f := D.str) ByteArray.empty tab rfl ((Nat.mul_one _).trans (Int.toNat_natCast _)) ?_ ?_; (· omega)) | refine sStep tab rfl ?_)
    | (refine isSlice ?_; first | refine sTake tab rfl rfl ?_ | refine sDrop tab rfl rfl ?_ | refine sStep tab rfl ?_)
    | (refine isCall ?_; first | (refine awpL_appr tab rfl ?_ (by decide) ?_; (· omega)) | (refine awpL_appm (f := rsD) tab rfl (rfz1 _) ?_ (by decide) ?_; (· omega)) | (refine awpL_appm (f := rsD) tab rfl rfl ?_ (by decide) ?_; (· omega)) | refine sApp tab rfl ?_ | refine sApp0 tab rfl ?_ | refine sStep tab rfl ?_)
    | (refine isMk ?_; first | refine sMk tab rfl (Int.toNat_natCast _) ?_ | refine sMk tab rfl rfl ?_ | refine sStep tab rfl ?_)
    | (refine isStore ?_; first | refine sSt tab rfl (Nat.mul_one _) ?_ | refine sStep tab rfl ?_)
    | (refine isOps ?_; refine sStep tab rfl ?_) | refine awp_block ?_ | refine awp_skip ?_ | (refine awp_exit ?_; show awp _ _ _ _)
    | (refine isCond ?_; refine awp_cond rfl (fun e => ?_) (fun e => ?_) <;> (first | (exfalso; exact Bool.noConfusion e) | (revert e; first | refine tt_in ?_ | refine ff_in ?_) | skip)) | refine awp_ret ⟨_, _, rfl, ok, ?_⟩)
  · rename_i h3
    refine awp_region_mono tab mixed 8 (by kernel_rfl) (s1 := ?s1) ?run1 ?tail1
    case run1 =>
      repeat' (first
        | exact MRun.nil
        | refine mOff rfl rfl ?_ | refine mWrap rfl rfl rfl ?_ | refine mLdu rfl rfl rfl ((Nat.mul_one _).trans (Int.toNat_natCast _)) ?_ | refine mLdu rfl rfl rfl (Nat.mul_one _) ?_
        | (refine MRun.cons rfl rfl (Mono1.ldr rfl rfl (Int.toNat_natCast _) ?_) ?_; (· omega)) | (refine MRun.cons rfl rfl (Mono1.ldm (f := rsD) [] rfl rfl ((Nat.mul_one _).trans (Int.toNat_natCast _)) ?_) ?_; (· omega)) | (refine MRun.cons rfl rfl (Mono1.ldm (f := D.str) ByteArray.empty rfl rfl ((Nat.mul_one _).trans (Int.toNat_natCast _)) ?_) ?_; (· omega))
        | refine mQuiet rfl rfl rfl ?_ | refine mLit rfl rfl rfl ?_)
    repeat' (first
      | refine awp_seq ?_ | refine awp_region ?_ | refine awpL_then ?_ | refine awpL_in ?_
      | (refine isBin ?_; first | refine sShr tab rfl ?_ | refine sQuo tab rfl ?_ | refine sRem tab rfl ?_ | (first | refine sDec tab rfl (fun _ => ?_) (fun _ => ?_) | refine sNdec tab rfl (fun _ => ?_) (fun _ => ?_)) <;> (try (exfalso; first | omega | (rename_i hq; exact hq rfl) | (rename_i hq; exact Bool.noConfusion hq))) | refine sWrap tab rfl ?_ | refine sBool tab rfl (fun e => ?_) (fun e => ?_) <;> (first | (exfalso; exact Bool.noConfusion e) | (revert e; first | refine tt_in ?_ | refine ff_in ?_) | skip) | refine sStep tab rfl ?_)
      | (refine isConv ?_; first | refine sConv tab rfl ?_ | refine sConvR tab rfl rfl ?_ | refine sStep tab rfl ?_)
      | (refine isUn ?_; first | refine sNot tab rfl (fun e => ?_) (fun e => ?_) <;> (first | (exfalso; exact Bool.noConfusion e) | (revert e; first | refine tt_in ?_ | refine ff_in ?_) | skip) | refine sUn tab rfl ?_ | refine sUnR tab rfl rfl ?_ | refine sStep tab rfl ?_)
      | (refine isLoad ?_; first | refine sLdu tab rfl ((Nat.mul_one _).trans (Int.toNat_natCast _)) ?_ | refine sLdu tab rfl (Nat.mul_one _) ?_ | (refine awpL_ldr tab rfl (Int.toNat_natCast _) ?_ ?_; (· omega)) | (refine awpL_ldm (f := rsD) [] tab rfl ((Nat.mul_one _).trans (Int.toNat_natCast _)) ?_ ?_; (· omega)) | (refine awpL_ldm (f := D.str) ByteArray.empty tab rfl ((Nat.mul_one _).trans (Int.toNat_natCast _)) ?_ ?_; (· omega)) | refine sStep tab rfl ?_)
      | (refine isSlice ?_; first | refine sTake tab rfl rfl ?_ | refine sDrop tab rfl rfl ?_ | refine sStep tab rfl ?_)
      | (refine isCall ?_; first | (refine awpL_appr tab rfl ?_ (by decide) ?_; (· omega)) | (refine awpL_appm (f := rsD) tab rfl (rfz1 _) ?_ (by decide) ?_; (· omega)) | (refine awpL_appm (f := rsD) tab rfl rfl ?_ (by decide) ?_; (· omega)) | refine sApp tab rfl ?_ | refine sApp0 tab rfl ?_ | refine sStep tab rfl ?_)
      | (refine isMk ?_; first | refine sMk tab rfl (Int.toNat_natCast _) ?_ | refine sMk tab rfl rfl ?_ | refine sStep tab rfl ?_)
      | (refine isStore ?_; first | refine sSt tab rfl (Nat.mul_one _) ?_ | refine sStep tab rfl ?_)
      | (refine isOps ?_; refine sStep tab rfl ?_) | refine awp_block ?_ | refine awp_skip ?_ | (refine awp_exit ?_; show awp _ _ _ _)
      | (refine isCond ?_; refine awp_cond rfl (fun e => ?_) (fun e => ?_) <;> (first | (exfalso; exact Bool.noConfusion e) | (revert e; first | refine tt_in ?_ | refine ff_in ?_) | skip)) | refine awp_ret ⟨_, _, rfl, ok, ?_⟩)
    · rw [str_eq] at e
      rw [decide_eq_false (fun e' => by subst e'; simp at e)]; rfl
    · rw [str_eq] at e
      exact ⟨i + 1, ⟨by omega, take_ext ByteArray.empty h2 (by omega) (by omega) (by simpa using e)⟩, by omega, ⟨rfl, rfl, iv (by omega), trivial⟩, trivial⟩
  · rw [List.take_of_length_le (by omega), List.take_of_length_le (by omega)] at h2
    rw [decide_eq_true h2]; rfl

theorem awake_true : Ret Tryd.prog 9 [] (· = .bool true) := by
  have hm := contrast_Matrix 3 3
  rw [show matD 3 3 = .tup [rssD (matZ 3 3 3), .int .i64 0] from rfl] at hm
  have hs := ref03_SameList (rowZ 3 3 2 2) [(false, [], []), zR 2] (by decide) (by decide) (fun r hr => by simp only [rowZ, List.range, List.range.loop, List.map_cons, List.map_nil, List.mem_cons, List.not_mem_nil, or_false] at hr; rcases hr with rfl | rfl <;> exact ⟨Nat.lt_of_le_of_lt (len_small (by decide)) (by decide), by decide⟩) (fun r hr => by simp only [List.mem_cons, List.not_mem_nil, or_false] at hr; rcases hr with rfl | rfl; exact ⟨by decide, by decide⟩; exact ⟨Nat.lt_of_le_of_lt (len_small (by decide)) (by decide), by decide⟩)
  rw [decide_eq_true (show rowZ 3 3 2 2 = [(false, [], []), zR 2] by
    show [zR 0, zR 2] = _
    simp [zR, limbs_zero])] at hs
  have hs' : Ret Tryd.prog 29 [rsD ((matZ 3 3 3).getD 2 []), .sl 2 [.bool false, .nils, .nils, .bool (zR 2).1, u32s (zR 2).2.1, u32s (zR 2).2.2]] (· = .bool true) := two_norm hs
  have ht := ref07_SameList [⟨#[61, 98]⟩] [⟨#[61, 98]⟩] (by decide) (by decide)
  rw [decide_eq_true rfl] at ht
  refine ret_of_awp tab Tryd.func9 rfl rfl (Nat.le_of_ble_eq_true rfl) (fun w0 F0 => ?_)
  repeat' (first
    | refine awp_seq ?_ | refine awp_region ?_ | refine awpL_then ?_ | refine awpL_in ?_
    | (refine isBin ?_; first | refine sShr tab rfl ?_ | refine sQuo tab rfl ?_ | refine sRem tab rfl ?_ | (first | refine sDec tab rfl (fun _ => ?_) (fun _ => ?_) | refine sNdec tab rfl (fun _ => ?_) (fun _ => ?_)) <;> (try (exfalso; first | omega | (rename_i hq; exact hq rfl) | (rename_i hq; exact Bool.noConfusion hq))) | refine sWrap tab rfl ?_ | refine sBool tab rfl (fun e => ?_) (fun e => ?_) <;> (first | (exfalso; exact Bool.noConfusion e) | (revert e; first | refine tt_in ?_ | refine ff_in ?_) | skip) | refine sStep tab rfl ?_)
    | (refine isConv ?_; first | refine sConv tab rfl ?_ | refine sConvR tab rfl rfl ?_ | refine sStep tab rfl ?_)
    | (refine isUn ?_; first | refine sNot tab rfl (fun e => ?_) (fun e => ?_) <;> (first | (exfalso; exact Bool.noConfusion e) | (revert e; first | refine tt_in ?_ | refine ff_in ?_) | skip) | refine sUn tab rfl ?_ | refine sUnR tab rfl rfl ?_ | refine sStep tab rfl ?_)
    | (refine isLoad ?_; first | refine sLdu tab rfl ((Nat.mul_one _).trans (Int.toNat_natCast _)) ?_ | refine sLdu tab rfl (Nat.mul_one _) ?_ | (refine awpL_ldr tab rfl (Int.toNat_natCast _) ?_ ?_; (· omega)) | (refine awpL_ldm (f := rsD) [] tab rfl ((Nat.mul_one _).trans (Int.toNat_natCast _)) ?_ ?_; (· omega)) | (refine awpL_ldm (f := D.str) ByteArray.empty tab rfl ((Nat.mul_one _).trans (Int.toNat_natCast _)) ?_ ?_; (· omega)) | refine sStep tab rfl ?_)
    | (refine isSlice ?_; first | refine sTake tab rfl rfl ?_ | refine sDrop tab rfl rfl ?_ | refine sStep tab rfl ?_)
    | (refine isCallF ?_; first | refine awpL_callE rfl rfl rfl rfl rfl rfl (hm) ?_ | refine awpL_callE rfl rfl rfl rfl rfl rfl (names_ab) ?_ )
    | (refine isCall ?_; first | (refine awpL_appr tab rfl ?_ (by decide) ?_; (· omega)) | (refine awpL_appm (f := rsD) tab rfl (rfz1 _) ?_ (by decide) ?_; (· omega)) | (refine awpL_appm (f := rsD) tab rfl rfl ?_ (by decide) ?_; (· omega)) | refine sApp tab rfl ?_ | refine sApp0 tab rfl ?_ | refine sStep tab rfl ?_)
    | (refine isMk ?_; first | refine sMk tab rfl (Int.toNat_natCast _) ?_ | refine sMk tab rfl rfl ?_ | refine sStep tab rfl ?_)
    | (refine isStore ?_; first | refine sSt tab rfl (Nat.mul_one _) ?_ | refine sStep tab rfl ?_)
    | (refine isOps ?_; refine sStep tab rfl ?_) | refine awp_block ?_ | refine awp_skip ?_ | (refine awp_exit ?_; show awp _ _ _ _)
    | (refine isCond ?_; refine awp_cond rfl (fun e => ?_) (fun e => ?_) <;> (first | (exfalso; exact Bool.noConfusion e) | (revert e; first | refine tt_in ?_ | refine ff_in ?_) | skip)) | refine awp_ret ⟨_, _, rfl, ok, ?_⟩)
  refine awp_region_mono tab mixed 25 (by kernel_rfl) (s1 := ?s2) ?run2 ?tail2
  case run2 =>
    repeat' (first
      | exact MRun.nil
      | refine mOff rfl rfl ?_ | refine mWrap rfl rfl rfl ?_ | refine mLdu rfl rfl rfl ((Nat.mul_one _).trans (Int.toNat_natCast _)) ?_ | refine mLdu rfl rfl rfl (Nat.mul_one _) ?_
      | (refine MRun.cons rfl rfl (Mono1.ldr rfl rfl (Int.toNat_natCast _) ?_) ?_; (· omega)) | (refine MRun.cons rfl rfl (Mono1.ldm (f := rsD) [] rfl rfl ((Nat.mul_one _).trans (Int.toNat_natCast _)) ?_) ?_; (· omega)) | (refine MRun.cons rfl rfl (Mono1.ldm (f := D.str) ByteArray.empty rfl rfl ((Nat.mul_one _).trans (Int.toNat_natCast _)) ?_) ?_; (· omega))
      | refine mQuiet rfl rfl rfl ?_ | refine mLit rfl rfl rfl ?_
      | refine MRun.cons rfl rfl (Mono1.call rfl rfl rfl rfl (ref03_FromInt 2 (by decide) (by decide))) ?_
      | refine MRun.cons rfl rfl (Mono1.call rfl rfl rfl rfl (hs')) ?_
      | refine MRun.cons rfl rfl (Mono1.call rfl rfl rfl rfl (ht)) ?_)
  repeat' (first
    | refine awp_seq ?_ | refine awp_region ?_ | refine awpL_then ?_ | refine awpL_in ?_
    | (refine isBin ?_; first | refine sShr tab rfl ?_ | refine sQuo tab rfl ?_ | refine sRem tab rfl ?_ | (first | refine sDec tab rfl (fun _ => ?_) (fun _ => ?_) | refine sNdec tab rfl (fun _ => ?_) (fun _ => ?_)) <;> (try (exfalso; first | omega | (rename_i hq; exact hq rfl) | (rename_i hq; exact Bool.noConfusion hq))) | refine sWrap tab rfl ?_ | refine sBool tab rfl (fun e => ?_) (fun e => ?_) <;> (first | (exfalso; exact Bool.noConfusion e) | (revert e; first | refine tt_in ?_ | refine ff_in ?_) | skip) | refine sStep tab rfl ?_)
    | (refine isConv ?_; first | refine sConv tab rfl ?_ | refine sConvR tab rfl rfl ?_ | refine sStep tab rfl ?_)
    | (refine isUn ?_; first | refine sNot tab rfl (fun e => ?_) (fun e => ?_) <;> (first | (exfalso; exact Bool.noConfusion e) | (revert e; first | refine tt_in ?_ | refine ff_in ?_) | skip) | refine sUn tab rfl ?_ | refine sUnR tab rfl rfl ?_ | refine sStep tab rfl ?_)
    | (refine isLoad ?_; first | refine sLdu tab rfl ((Nat.mul_one _).trans (Int.toNat_natCast _)) ?_ | refine sLdu tab rfl (Nat.mul_one _) ?_ | (refine awpL_ldr tab rfl (Int.toNat_natCast _) ?_ ?_; (· omega)) | (refine awpL_ldm (f := rsD) [] tab rfl ((Nat.mul_one _).trans (Int.toNat_natCast _)) ?_ ?_; (· omega)) | (refine awpL_ldm (f := D.str) ByteArray.empty tab rfl ((Nat.mul_one _).trans (Int.toNat_natCast _)) ?_ ?_; (· omega)) | refine sStep tab rfl ?_)
    | (refine isSlice ?_; first | refine sTake tab rfl rfl ?_ | refine sDrop tab rfl rfl ?_ | refine sStep tab rfl ?_)
    | (refine isCall ?_; first | (refine awpL_appr tab rfl ?_ (by decide) ?_; (· omega)) | (refine awpL_appm (f := rsD) tab rfl (rfz1 _) ?_ (by decide) ?_; (· omega)) | (refine awpL_appm (f := rsD) tab rfl rfl ?_ (by decide) ?_; (· omega)) | refine sApp tab rfl ?_ | refine sApp0 tab rfl ?_ | refine sStep tab rfl ?_)
    | (refine isMk ?_; first | refine sMk tab rfl (Int.toNat_natCast _) ?_ | refine sMk tab rfl rfl ?_ | refine sStep tab rfl ?_)
    | (refine isStore ?_; first | refine sSt tab rfl (Nat.mul_one _) ?_ | refine sStep tab rfl ?_)
    | (refine isOps ?_; refine sStep tab rfl ?_) | refine awp_block ?_ | refine awp_skip ?_ | (refine awp_exit ?_; show awp _ _ _ _)
    | (refine isCond ?_; refine awp_cond rfl (fun e => ?_) (fun e => ?_) <;> (first | (exfalso; exact Bool.noConfusion e) | (revert e; first | refine tt_in ?_ | refine ff_in ?_) | skip)) | refine awp_ret ⟨_, _, rfl, ok, ?_⟩)
  rfl
end Go.Proofs.YtcblkjmnigbiiaaDoor
