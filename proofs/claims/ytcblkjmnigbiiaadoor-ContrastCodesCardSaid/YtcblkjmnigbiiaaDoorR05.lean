/-
  Contracts of functions of the program, walked with the abstract layer. Conditions: as each says.
-/
import Derived.Test.YtcblkjmnigbiiaaDoorR04
import Derived.Test.YtcblkjmnigbiiaaDoorRats
import Derived.KernelRfl
set_option autoImplicit false
set_option linter.unusedVariables false
set_option linter.unusedSimpArgs false
namespace Go.Proofs.YtcblkjmnigbiiaaDoor
open Go.Ab
attribute [local irreducible] awp awpL

theorem ref03_FromInt (v : Int) (h1 : -9223372036854775808 ≤ v) (h2 : v < 9223372036854775808) : Ret Tryd.prog 19 [.int .i64 v] (· = rD (zR v)) := by
  refine ret_of_awp tab Tryd.func19 rfl rfl (Nat.le_of_ble_eq_true rfl) (fun w0 F0 => ?_)
  repeat' (first
    | refine awp_seq ?_ | refine awp_region ?_ | refine awpL_then ?_ | refine awpL_in ?_
    | (refine isBin ?_; first | refine sShr tab rfl ?_ | refine sQuo tab rfl ?_ | refine sRem tab rfl ?_ | (first | refine sDec tab rfl (fun _ => ?_) (fun _ => ?_) | refine sNdec tab rfl (fun _ => ?_) (fun _ => ?_)) <;> (try (exfalso; first | omega | (rename_i hq; exact hq rfl) | (rename_i hq; exact Bool.noConfusion hq))) | refine sWrap tab rfl ?_ | refine sBool tab rfl (fun e => ?_) (fun e => ?_) <;> (first | (exfalso; exact Bool.noConfusion e) | (revert e; first | refine tt_in ?_ | refine ff_in ?_) | skip) | refine sStep tab rfl ?_)
    | (refine isConv ?_; first | refine sConv tab rfl ?_ | refine sConvR tab rfl rfl ?_ | refine sStep tab rfl ?_)
    | (refine isUn ?_; first | refine sNot tab rfl (fun e => ?_) (fun e => ?_) <;> (first | (exfalso; exact Bool.noConfusion e) | (revert e; first | refine tt_in ?_ | refine ff_in ?_) | skip) | refine sUn tab rfl ?_ | refine sUnR tab rfl rfl ?_ | refine sStep tab rfl ?_)
    | (refine isLoad ?_; first | refine sLdu tab rfl ((Nat.mul_one _).trans (Int.toNat_natCast _)) ?_ | refine sLdu tab rfl (Nat.mul_one _) ?_ | (refine awpL_ldr tab rfl (Int.toNat_natCast _) ?_ ?_; (· omega)) | (refine awpL_ldm (f := rsD) [] tab rfl ((Nat.mul_one _).trans (Int.toNat_natCast _)) ?_ ?_; (· omega)) | (refine awpL_ldm (f := D.str) ByteArray.empty tab rfl ((Nat.mul_one _).trans (Int.toNat_natCast _)) ?_ ?_; (· omega)) | refine sStep tab rfl ?_)
    | (refine isSlice ?_; first | refine sTake tab rfl rfl ?_ | refine sDrop tab rfl rfl ?_ | refine sStep tab rfl ?_)
    | (refine isCallF ?_; first | refine awpL_callE rfl rfl rfl rfl rfl rfl (ref02_FromInt v h1 h2) ?_ )
    | (refine isCall ?_; first | (refine awpL_appr tab rfl ?_ (by decide) ?_; (· omega)) | (refine awpL_appm (f := rsD) tab rfl (rfz1 _) ?_ (by decide) ?_; (· omega)) | (refine awpL_appm (f := rsD) tab rfl rfl ?_ (by decide) ?_; (· omega)) | refine sApp tab rfl ?_ | refine sApp0 tab rfl ?_ | refine sStep tab rfl ?_)
    | (refine isMk ?_; first | refine sMk tab rfl (Int.toNat_natCast _) ?_ | refine sMk tab rfl rfl ?_ | refine sStep tab rfl ?_)
    | (refine isStore ?_; first | refine sSt tab rfl (Nat.mul_one _) ?_ | refine sStep tab rfl ?_)
    | (refine isOps ?_; refine sStep tab rfl ?_) | refine awp_block ?_ | refine awp_skip ?_ | (refine awp_exit ?_; show awp _ _ _ _)
    | (refine isCond ?_; refine awp_cond rfl (fun e => ?_) (fun e => ?_) <;> (first | (exfalso; exact Bool.noConfusion e) | (revert e; first | refine tt_in ?_ | refine ff_in ?_) | skip)) | refine awp_ret ⟨_, _, rfl, ok, ?_⟩)
  rfl

/-- The lists of a number have bounded length. -/
def okR (k : Nat) (r : R3) : Prop := r.2.1.length < k ∧ r.2.2.length < k

theorem ref03_Same (r t : R3) (h1 : okR 100000000000 r) (h2 : okR 100000000000 t) : Ret Tryd.prog 18 [rD r, rD t] (· = .bool (decide (r = t))) := by
  obtain ⟨n1, m1, d1⟩ := r
  obtain ⟨n2, m2, d2⟩ := t
  obtain ⟨h1, h1'⟩ := h1
  obtain ⟨h2, h2'⟩ := h2
  have hs := ref02_Same n1 n2 m1 m2 h1 h2
  have ht := ref01_Same d1 d2 (Nat.lt_trans h1' (by decide)) (Nat.lt_trans h2' (by decide))
  by_cases h : n1 = n2 ∧ m1 = m2
  · rw [decide_eq_true h] at hs
    refine ret_of_awp tab Tryd.func18 rfl rfl (Nat.le_of_ble_eq_true rfl) (fun w0 F0 => ?_)
    repeat' (first
      | refine awp_seq ?_ | refine awp_region ?_ | refine awpL_then ?_ | refine awpL_in ?_
      | (refine isBin ?_; first | refine sShr tab rfl ?_ | refine sQuo tab rfl ?_ | refine sRem tab rfl ?_ | (first | refine sDec tab rfl (fun _ => ?_) (fun _ => ?_) | refine sNdec tab rfl (fun _ => ?_) (fun _ => ?_)) <;> (try (exfalso; first | omega | (rename_i hq; exact hq rfl) | (rename_i hq; exact Bool.noConfusion hq))) | refine sWrap tab rfl ?_ | refine sBool tab rfl (fun e => ?_) (fun e => ?_) <;> (first | (exfalso; exact Bool.noConfusion e) | (revert e; first | refine tt_in ?_ | refine ff_in ?_) | skip) | refine sStep tab rfl ?_)
      | (refine isConv ?_; first | refine sConv tab rfl ?_ | refine sConvR tab rfl rfl ?_ | refine sStep tab rfl ?_)
      | (refine isUn ?_; first | refine sNot tab rfl (fun e => ?_) (fun e => ?_) <;> (first | (exfalso; exact Bool.noConfusion e) | (revert e; first | refine tt_in ?_ | refine ff_in ?_) | skip) | refine sUn tab rfl ?_ | refine sUnR tab rfl rfl ?_ | refine sStep tab rfl ?_)
      | (refine isLoad ?_; first | refine sLdu tab rfl ((Nat.mul_one _).trans (Int.toNat_natCast _)) ?_ | refine sLdu tab rfl (Nat.mul_one _) ?_ | (refine awpL_ldr tab rfl (Int.toNat_natCast _) ?_ ?_; (· omega)) | (refine awpL_ldm (f := rsD) [] tab rfl ((Nat.mul_one _).trans (Int.toNat_natCast _)) ?_ ?_; (· omega)) | (refine awpL_ldm (f := D.str) ByteArray.empty tab rfl ((Nat.mul_one _).trans (Int.toNat_natCast _)) ?_ ?_; (· omega)) | refine sStep tab rfl ?_)
      | (refine isSlice ?_; first | refine sTake tab rfl rfl ?_ | refine sDrop tab rfl rfl ?_ | refine sStep tab rfl ?_)
      | (refine isCallF ?_; first | refine awpL_callE rfl rfl rfl rfl rfl rfl (hs) ?_ | refine awpL_callE rfl rfl rfl rfl rfl rfl (ht) ?_ )
      | (refine isCall ?_; first | (refine awpL_appr tab rfl ?_ (by decide) ?_; (· omega)) | (refine awpL_appm (f := rsD) tab rfl (rfz1 _) ?_ (by decide) ?_; (· omega)) | (refine awpL_appm (f := rsD) tab rfl rfl ?_ (by decide) ?_; (· omega)) | refine sApp tab rfl ?_ | refine sApp0 tab rfl ?_ | refine sStep tab rfl ?_)
      | (refine isMk ?_; first | refine sMk tab rfl (Int.toNat_natCast _) ?_ | refine sMk tab rfl rfl ?_ | refine sStep tab rfl ?_)
      | (refine isStore ?_; first | refine sSt tab rfl (Nat.mul_one _) ?_ | refine sStep tab rfl ?_)
      | (refine isOps ?_; refine sStep tab rfl ?_) | refine awp_block ?_ | refine awp_skip ?_ | (refine awp_exit ?_; show awp _ _ _ _)
      | (refine isCond ?_; refine awp_cond rfl (fun e => ?_) (fun e => ?_) <;> (first | (exfalso; exact Bool.noConfusion e) | (revert e; first | refine tt_in ?_ | refine ff_in ?_) | skip)) | refine awp_ret ⟨_, _, rfl, ok, ?_⟩)
    show D.bool _ = D.bool _
    simp [h]
  · rw [decide_eq_false h] at hs
    refine ret_of_awp tab Tryd.func18 rfl rfl (Nat.le_of_ble_eq_true rfl) (fun w0 F0 => ?_)
    repeat' (first
      | refine awp_seq ?_ | refine awp_region ?_ | refine awpL_then ?_ | refine awpL_in ?_
      | (refine isBin ?_; first | refine sShr tab rfl ?_ | refine sQuo tab rfl ?_ | refine sRem tab rfl ?_ | (first | refine sDec tab rfl (fun _ => ?_) (fun _ => ?_) | refine sNdec tab rfl (fun _ => ?_) (fun _ => ?_)) <;> (try (exfalso; first | omega | (rename_i hq; exact hq rfl) | (rename_i hq; exact Bool.noConfusion hq))) | refine sWrap tab rfl ?_ | refine sBool tab rfl (fun e => ?_) (fun e => ?_) <;> (first | (exfalso; exact Bool.noConfusion e) | (revert e; first | refine tt_in ?_ | refine ff_in ?_) | skip) | refine sStep tab rfl ?_)
      | (refine isConv ?_; first | refine sConv tab rfl ?_ | refine sConvR tab rfl rfl ?_ | refine sStep tab rfl ?_)
      | (refine isUn ?_; first | refine sNot tab rfl (fun e => ?_) (fun e => ?_) <;> (first | (exfalso; exact Bool.noConfusion e) | (revert e; first | refine tt_in ?_ | refine ff_in ?_) | skip) | refine sUn tab rfl ?_ | refine sUnR tab rfl rfl ?_ | refine sStep tab rfl ?_)
      | (refine isLoad ?_; first | refine sLdu tab rfl ((Nat.mul_one _).trans (Int.toNat_natCast _)) ?_ | refine sLdu tab rfl (Nat.mul_one _) ?_ | (refine awpL_ldr tab rfl (Int.toNat_natCast _) ?_ ?_; (· omega)) | (refine awpL_ldm (f := rsD) [] tab rfl ((Nat.mul_one _).trans (Int.toNat_natCast _)) ?_ ?_; (· omega)) | (refine awpL_ldm (f := D.str) ByteArray.empty tab rfl ((Nat.mul_one _).trans (Int.toNat_natCast _)) ?_ ?_; (· omega)) | refine sStep tab rfl ?_)
      | (refine isSlice ?_; first | refine sTake tab rfl rfl ?_ | refine sDrop tab rfl rfl ?_ | refine sStep tab rfl ?_)
      | (refine isCallF ?_; first | refine awpL_callE rfl rfl rfl rfl rfl rfl (hs) ?_ | refine awpL_callE rfl rfl rfl rfl rfl rfl (ht) ?_ )
      | (refine isCall ?_; first | (refine awpL_appr tab rfl ?_ (by decide) ?_; (· omega)) | (refine awpL_appm (f := rsD) tab rfl (rfz1 _) ?_ (by decide) ?_; (· omega)) | (refine awpL_appm (f := rsD) tab rfl rfl ?_ (by decide) ?_; (· omega)) | refine sApp tab rfl ?_ | refine sApp0 tab rfl ?_ | refine sStep tab rfl ?_)
      | (refine isMk ?_; first | refine sMk tab rfl (Int.toNat_natCast _) ?_ | refine sMk tab rfl rfl ?_ | refine sStep tab rfl ?_)
      | (refine isStore ?_; first | refine sSt tab rfl (Nat.mul_one _) ?_ | refine sStep tab rfl ?_)
      | (refine isOps ?_; refine sStep tab rfl ?_) | refine awp_block ?_ | refine awp_skip ?_ | (refine awp_exit ?_; show awp _ _ _ _)
      | (refine isCond ?_; refine awp_cond rfl (fun e => ?_) (fun e => ?_) <;> (first | (exfalso; exact Bool.noConfusion e) | (revert e; first | refine tt_in ?_ | refine ff_in ?_) | skip)) | refine awp_ret ⟨_, _, rfl, ok, ?_⟩)
    show D.bool _ = D.bool _
    simp
    intro g1 g2; exact absurd ⟨g1, g2⟩ h

theorem ref03_SameList (a b : List R3) (hla : a.length < 100000000000) (hlb : b.length < 100000000000) (ha : ∀ r ∈ a, okR 100000000000 r) (hb : ∀ r ∈ b, okR 100000000000 r) : Ret Tryd.prog 29 [rsD a, rsD b] (· = .bool (decide (a = b))) := by
  refine ret_of_awp tab Tryd.func29 rfl rfl (Nat.le_of_ble_eq_true rfl) (fun w0 F0 => ?_)
  repeat' (first
    | refine awp_seq ?_ | refine awp_region ?_ | refine awpL_then ?_ | refine awpL_in ?_
    | (refine isBin ?_; first | refine sShr tab rfl ?_ | refine sQuo tab rfl ?_ | refine sRem tab rfl ?_ | (first | refine sDec tab rfl (fun _ => ?_) (fun _ => ?_) | refine sNdec tab rfl (fun _ => ?_) (fun _ => ?_)) <;> (try (exfalso; first | omega | (rename_i hq; exact hq rfl) | (rename_i hq; exact Bool.noConfusion hq))) | refine sWrap tab rfl ?_ | refine sBool tab rfl (fun e => ?_) (fun e => ?_) <;> (first | (exfalso; exact Bool.noConfusion e) | (revert e; first | refine tt_in ?_ | refine ff_in ?_) | skip) | refine sStep tab rfl ?_)
    | (refine isConv ?_; first | refine sConv tab rfl ?_ | refine sConvR tab rfl rfl ?_ | refine sStep tab rfl ?_)
    | (refine isUn ?_; first | refine sNot tab rfl (fun e => ?_) (fun e => ?_) <;> (first | (exfalso; exact Bool.noConfusion e) | (revert e; first | refine tt_in ?_ | refine ff_in ?_) | skip) | refine sUn tab rfl ?_ | refine sUnR tab rfl rfl ?_ | refine sStep tab rfl ?_)
    | (refine isLoad ?_; first | refine sLdu tab rfl ((Nat.mul_one _).trans (Int.toNat_natCast _)) ?_ | refine sLdu tab rfl (Nat.mul_one _) ?_ | (refine awpL_ldr tab rfl (Int.toNat_natCast _) ?_ ?_; (· omega)) | (refine awpL_ldm (f := rsD) [] tab rfl ((Nat.mul_one _).trans (Int.toNat_natCast _)) ?_ ?_; (· omega)) | (refine awpL_ldm (f := D.str) ByteArray.empty tab rfl ((Nat.mul_one _).trans (Int.toNat_natCast _)) ?_ ?_; (· omega)) | refine sStep tab rfl ?_)
    | (refine isSlice ?_; first | refine sTake tab rfl rfl ?_ | refine sDrop tab rfl rfl ?_ | refine sStep tab rfl ?_)
    | (refine isCall ?_; first | (refine awpL_appr tab rfl ?_ (by decide) ?_; (· omega)) | (refine awpL_appm (f := rsD) tab rfl (rfz1 _) ?_ (by decide) ?_; (· omega)) | (refine awpL_appm (f := rsD) tab rfl rfl ?_ (by decide) ?_; (· omega)) | refine sApp tab rfl ?_ | refine sApp0 tab rfl ?_ | refine sStep tab rfl ?_)
    | (refine isMk ?_; first | refine sMk tab rfl (Int.toNat_natCast _) ?_ | refine sMk tab rfl rfl ?_ | refine sStep tab rfl ?_)
    | (refine isStore ?_; first | refine sSt tab rfl (Nat.mul_one _) ?_ | refine sStep tab rfl ?_)
    | (refine isOps ?_; refine sStep tab rfl ?_) | refine awp_block ?_ | refine awp_skip ?_ | (refine awp_exit ?_; show awp _ _ _ _)
    | (refine isCond ?_; refine awp_cond rfl (fun e => ?_) (fun e => ?_) <;> (first | (exfalso; exact Bool.noConfusion e) | (revert e; first | refine tt_in ?_ | refine ff_in ?_) | skip)) | refine awp_ret ⟨_, _, rfl, ok, ?_⟩)
  · rename_i h
    rw [decide_eq_false (fun e => h (by rw [e]))]; rfl
  rename_i h
  refine awp_loop1 (fun (i : Nat) => ([(0, .d (rsD a)), (1, .d (rsD b)), (5, .d (.int .i64 i))], [])) (fun i => i ≤ a.length ∧ a.take i = b.take i) (fun i => a.length - i) 0 ⟨by simp, by simp⟩ ⟨rfl, rfl, rfl, trivial⟩ trivial (fun i hi => ?_)
  obtain ⟨h1, h2⟩ := hi
  repeat' (first
    | refine awp_seq ?_ | refine awp_region ?_ | refine awpL_then ?_ | refine awpL_in ?_
    | (refine isBin ?_; first | refine sShr tab rfl ?_ | refine sQuo tab rfl ?_ | refine sRem tab rfl ?_ | (first | refine sDec tab rfl (fun _ => ?_) (fun _ => ?_) | refine sNdec tab rfl (fun _ => ?_) (fun _ => ?_)) <;> (try (exfalso; first | omega | (rename_i hq; exact hq rfl) | (rename_i hq; exact Bool.noConfusion hq))) | refine sWrap tab rfl ?_ | refine sBool tab rfl (fun e => ?_) (fun e => ?_) <;> (first | (exfalso; exact Bool.noConfusion e) | (revert e; first | refine tt_in ?_ | refine ff_in ?_) | skip) | refine sStep tab rfl ?_)
    | (refine isConv ?_; first | refine sConv tab rfl ?_ | refine sConvR tab rfl rfl ?_ | refine sStep tab rfl ?_)
    | (refine isUn ?_; first | refine sNot tab rfl (fun e => ?_) (fun e => ?_) <;> (first | (exfalso; exact Bool.noConfusion e) | (revert e; first | refine tt_in ?_ | refine ff_in ?_) | skip) | refine sUn tab rfl ?_ | refine sUnR tab rfl rfl ?_ | refine sStep tab rfl ?_)
    | (refine isLoad ?_; first | refine sLdu tab rfl ((Nat.mul_one _).trans (Int.toNat_natCast _)) ?_ | refine sLdu tab rfl (Nat.mul_one _) ?_ | (refine awpL_ldr tab rfl (Int.toNat_natCast _) ?_ ?_; (· omega)) | (refine awpL_ldm (f := rsD) [] tab rfl ((Nat.mul_one _).trans (Int.toNat_natCast _)) ?_ ?_; (· omega)) | (refine awpL_ldm (f := D.str) ByteArray.empty tab rfl ((Nat.mul_one _).trans (Int.toNat_natCast _)) ?_ ?_; (· omega)) | refine sStep tab rfl ?_)
    | (refine isSlice ?_; first | refine sTake tab rfl rfl ?_ | refine sDrop tab rfl rfl ?_ | refine sStep tab rfl ?_)
    | (refine isCall ?_; first | (refine awpL_appr tab rfl ?_ (by decide) ?_; (· omega)) | (refine awpL_appm (f := rsD) tab rfl (rfz1 _) ?_ (by decide) ?_; (· omega)) | (refine awpL_appm (f := rsD) tab rfl rfl ?_ (by decide) ?_; (· omega)) | refine sApp tab rfl ?_ | refine sApp0 tab rfl ?_ | refine sStep tab rfl ?_)
    | (refine isMk ?_; first | refine sMk tab rfl (Int.toNat_natCast _) ?_ | refine sMk tab rfl rfl ?_ | refine sStep tab rfl ?_)
    | (refine isStore ?_; first | refine sSt tab rfl (Nat.mul_one _) ?_ | refine sStep tab rfl ?_)
    | (refine isOps ?_; refine sStep tab rfl ?_) | refine awp_block ?_ | refine awp_skip ?_ | (refine awp_exit ?_; show awp _ _ _ _)
    | (refine isCond ?_; refine awp_cond rfl (fun e => ?_) (fun e => ?_) <;> (first | (exfalso; exact Bool.noConfusion e) | (revert e; first | refine tt_in ?_ | refine ff_in ?_) | skip)) | refine awp_ret ⟨_, _, rfl, ok, ?_⟩)
  · rename_i h3
    have i1 : i < a.length := by omega
    have i2 : i < b.length := by omega
    have g1 : a.getD i default ∈ a := by rw [List.getD, List.getElem?_eq_getElem i1]; exact List.getElem_mem i1
    have g2 : b.getD i default ∈ b := by rw [List.getD, List.getElem?_eq_getElem i2]; exact List.getElem_mem i2
    refine awp_region_mono tab mixed 9 (by kernel_rfl) (s1 := ?s1) ?run1 ?tail1
    case run1 =>
      repeat' (first
        | exact MRun.nil
        | refine mOff rfl rfl ?_ | refine mWrap rfl rfl rfl ?_ | refine mLdu rfl rfl rfl ((Nat.mul_one _).trans (Int.toNat_natCast _)) ?_ | refine mLdu rfl rfl rfl (Nat.mul_one _) ?_
        | (refine MRun.cons rfl rfl (Mono1.ldr rfl rfl (Int.toNat_natCast _) ?_) ?_; (· omega)) | (refine MRun.cons rfl rfl (Mono1.ldm (f := rsD) [] rfl rfl ((Nat.mul_one _).trans (Int.toNat_natCast _)) ?_) ?_; (· omega)) | (refine MRun.cons rfl rfl (Mono1.ldm (f := D.str) ByteArray.empty rfl rfl ((Nat.mul_one _).trans (Int.toNat_natCast _)) ?_) ?_; (· omega))
        | refine mQuiet rfl rfl rfl ?_ | refine mLit rfl rfl rfl ?_
        | refine MRun.cons rfl rfl (Mono1.call rfl rfl rfl rfl (ref03_Same _ _ (ha _ g1) (hb _ g2))) ?_)
    repeat' (first
      | refine awp_seq ?_ | refine awp_region ?_ | refine awpL_then ?_ | refine awpL_in ?_
      | (refine isBin ?_; first | refine sShr tab rfl ?_ | refine sQuo tab rfl ?_ | refine sRem tab rfl ?_ | (first | refine sDec tab rfl (fun _ => ?_) (fun _ => ?_) | refine sNdec tab rfl (fun _ => ?_) (fun _ => ?_)) <;> (try (exfalso; first | omega | (rename_i hq; exact hq rfl) | (rename_i hq; exact Bool.noConfusion hq))) | refine sWrap tab rfl ?_ | refine sBool tab rfl (fun e => ?_) (fun e => ?_) <;> (first | (exfalso; exact Bool.noConfusion e) | (revert e; first | refine tt_in ?_ | refine ff_in ?_) | skip) | refine sStep tab rfl ?_)
      | (refine isConv ?_; first | refine sConv tab rfl ?_ | refine sConvR tab rfl rfl ?_ | refine sStep tab rfl ?_)
      | (refine isUn ?_; first | refine sNot tab rfl (fun e => ?_) (fun e => ?_) <;> (first | (exfalso; exact Bool.noConfusion e) | (revert e; first | refine tt_in ?_ | refine ff_in ?_) | skip) | refine sUn tab rfl ?_ | refine sUnR tab rfl rfl ?_ | refine sStep tab rfl ?_)
      | (refine isLoad ?_; first | refine sLdu tab rfl ((Nat.mul_one _).trans (Int.toNat_natCast _)) ?_ | refine sLdu tab rfl (Nat.mul_one _) ?_ | (refine awpL_ldr tab rfl (Int.toNat_natCast _) ?_ ?_; (· omega)) | (refine awpL_ldm (f := rsD) [] tab rfl ((Nat.mul_one _).trans (Int.toNat_natCast _)) ?_ ?_; (· omega)) | (refine awpL_ldm (f := D.str) ByteArray.empty tab rfl ((Nat.mul_one _).trans (Int.toNat_natCast _)) ?_ ?_; (· omega)) | refine sStep tab rfl ?_)
      | (refine isSlice ?_; first | refine sTake tab rfl rfl ?_ | refine sDrop tab rfl rfl ?_ | refine sStep tab rfl ?_)
      | (refine isCall ?_; first | (refine awpL_appr tab rfl ?_ (by decide) ?_; (· omega)) | (refine awpL_appm (f := rsD) tab rfl (rfz1 _) ?_ (by decide) ?_; (· omega)) | (refine awpL_appm (f := rsD) tab rfl rfl ?_ (by decide) ?_; (· omega)) | refine sApp tab rfl ?_ | refine sApp0 tab rfl ?_ | refine sStep tab rfl ?_)
      | (refine isMk ?_; first | refine sMk tab rfl (Int.toNat_natCast _) ?_ | refine sMk tab rfl rfl ?_ | refine sStep tab rfl ?_)
      | (refine isStore ?_; first | refine sSt tab rfl (Nat.mul_one _) ?_ | refine sStep tab rfl ?_)
      | (refine isOps ?_; refine sStep tab rfl ?_) | refine awp_block ?_ | refine awp_skip ?_ | (refine awp_exit ?_; show awp _ _ _ _)
      | (refine isCond ?_; refine awp_cond rfl (fun e => ?_) (fun e => ?_) <;> (first | (exfalso; exact Bool.noConfusion e) | (revert e; first | refine tt_in ?_ | refine ff_in ?_) | skip)) | refine awp_ret ⟨_, _, rfl, ok, ?_⟩)
    · rw [decide_eq_false (fun e' => by subst e'; simp at e)]; rfl
    · exact ⟨i + 1, ⟨by omega, take_ext default h2 (by omega) (by omega) (of_decide_eq_true e)⟩, by omega, ⟨rfl, rfl, iv (by omega), trivial⟩, trivial⟩
  · rw [List.take_of_length_le (by omega), List.take_of_length_le (by omega)] at h2
    rw [decide_eq_true h2]; rfl

theorem ref03_SameLists (a b : List (List R3)) (hla : a.length < 100000000000) (hlb : b.length < 100000000000) (ha : ∀ l ∈ a, l.length < 100000000000 ∧ ∀ r ∈ l, okR 100000000000 r) (hb : ∀ l ∈ b, l.length < 100000000000 ∧ ∀ r ∈ l, okR 100000000000 r) : Ret Tryd.prog 10 [rssD a, rssD b] (· = .bool (decide (a = b))) := by
  refine ret_of_awp tab Tryd.func10 rfl rfl (Nat.le_of_ble_eq_true rfl) (fun w0 F0 => ?_)
  repeat' (first
    | refine awp_seq ?_ | refine awp_region ?_ | refine awpL_then ?_ | refine awpL_in ?_
    | (refine isBin ?_; first | refine sShr tab rfl ?_ | refine sQuo tab rfl ?_ | refine sRem tab rfl ?_ | (first | refine sDec tab rfl (fun _ => ?_) (fun _ => ?_) | refine sNdec tab rfl (fun _ => ?_) (fun _ => ?_)) <;> (try (exfalso; first | omega | (rename_i hq; exact hq rfl) | (rename_i hq; exact Bool.noConfusion hq))) | refine sWrap tab rfl ?_ | refine sBool tab rfl (fun e => ?_) (fun e => ?_) <;> (first | (exfalso; exact Bool.noConfusion e) | (revert e; first | refine tt_in ?_ | refine ff_in ?_) | skip) | refine sStep tab rfl ?_)
    | (refine isConv ?_; first | refine sConv tab rfl ?_ | refine sConvR tab rfl rfl ?_ | refine sStep tab rfl ?_)
    | (refine isUn ?_; first | refine sNot tab rfl (fun e => ?_) (fun e => ?_) <;> (first | (exfalso; exact Bool.noConfusion e) | (revert e; first | refine tt_in ?_ | refine ff_in ?_) | skip) | refine sUn tab rfl ?_ | refine sUnR tab rfl rfl ?_ | refine sStep tab rfl ?_)
    | (refine isLoad ?_; first | refine sLdu tab rfl ((Nat.mul_one _).trans (Int.toNat_natCast _)) ?_ | refine sLdu tab rfl (Nat.mul_one _) ?_ | (refine awpL_ldr tab rfl (Int.toNat_natCast _) ?_ ?_; (· omega)) | (refine awpL_ldm (f := rsD) [] tab rfl ((Nat.mul_one _).trans (Int.toNat_natCast _)) ?_ ?_; (· omega)) | (refine awpL_ldm (f := D.str) ByteArray.empty tab rfl ((Nat.mul_one _).trans (Int.toNat_natCast _)) ?_ ?_; (· omega)) | refine sStep tab rfl ?_)
    | (refine isSlice ?_; first | refine sTake tab rfl rfl ?_ | refine sDrop tab rfl rfl ?_ | refine sStep tab rfl ?_)
    | (refine isCall ?_; first | (refine awpL_appr tab rfl ?_ (by decide) ?_; (· omega)) | (refine awpL_appm (f := rsD) tab rfl (rfz1 _) ?_ (by decide) ?_; (· omega)) | (refine awpL_appm (f := rsD) tab rfl rfl ?_ (by decide) ?_; (· omega)) | refine sApp tab rfl ?_ | refine sApp0 tab rfl ?_ | refine sStep tab rfl ?_)
    | (refine isMk ?_; first | refine sMk tab rfl (Int.toNat_natCast _) ?_ | refine sMk tab rfl rfl ?_ | refine sStep tab rfl ?_)
    | (refine isStore ?_; first | refine sSt tab rfl (Nat.mul_one _) ?_ | refine sStep tab rfl ?_)
    | (refine isOps ?_; refine sStep tab rfl ?_) | refine awp_block ?_ | refine awp_skip ?_ | (refine awp_exit ?_; show awp _ _ _ _)
    | (refine isCond ?_; refine awp_cond rfl (fun e => ?_) (fun e => ?_) <;> (first | (exfalso; exact Bool.noConfusion e) | (revert e; first | refine tt_in ?_ | refine ff_in ?_) | skip)) | refine awp_ret ⟨_, _, rfl, ok, ?_⟩)
  · rename_i h
    rw [decide_eq_false (fun e => h (by rw [e]))]; rfl
  rename_i h
  refine awp_loop1 (fun (i : Nat) => ([(0, .d (rssD a)), (1, .d (rssD b)), (5, .d (.int .i64 i))], [])) (fun i => i ≤ a.length ∧ a.take i = b.take i) (fun i => a.length - i) 0 ⟨by simp, by simp⟩ ⟨rfl, rfl, rfl, trivial⟩ trivial (fun i hi => ?_)
  obtain ⟨h1, h2⟩ := hi
  repeat' (first
    | refine awp_seq ?_ | refine awp_region ?_ | refine awpL_then ?_ | refine awpL_in ?_
    | (refine isBin ?_; first | refine sShr tab rfl ?_ | refine sQuo tab rfl ?_ | refine sRem tab rfl ?_ | (first | refine sDec tab rfl (fun _ => ?_) (fun _ => ?_) | refine sNdec tab rfl (fun _ => ?_) (fun _ => ?_)) <;> (try (exfalso; first | omega | (rename_i hq; exact hq rfl) | (rename_i hq; exact Bool.noConfusion hq))) | refine sWrap tab rfl ?_ | refine sBool tab rfl (fun e => ?_) (fun e => ?_) <;> (first | (exfalso; exact Bool.noConfusion e) | (revert e; first | refine tt_in ?_ | refine ff_in ?_) | skip) | refine sStep tab rfl ?_)
    | (refine isConv ?_; first | refine sConv tab rfl ?_ | refine sConvR tab rfl rfl ?_ | refine sStep tab rfl ?_)
    | (refine isUn ?_; first | refine sNot tab rfl (fun e => ?_) (fun e => ?_) <;> (first | (exfalso; exact Bool.noConfusion e) | (revert e; first | refine tt_in ?_ | refine ff_in ?_) | skip) | refine sUn tab rfl ?_ | refine sUnR tab rfl rfl ?_ | refine sStep tab rfl ?_)
    | (refine isLoad ?_; first | refine sLdu tab rfl ((Nat.mul_one _).trans (Int.toNat_natCast _)) ?_ | refine sLdu tab rfl (Nat.mul_one _) ?_ | (refine awpL_ldr tab rfl (Int.toNat_natCast _) ?_ ?_; (· omega)) | (refine awpL_ldm (f := rsD) [] tab rfl ((Nat.mul_one _).trans (Int.toNat_natCast _)) ?_ ?_; (· omega)) | (refine awpL_ldm (f := D.str) ByteArray.empty tab rfl ((Nat.mul_one _).trans (Int.toNat_natCast _)) ?_ ?_; (· omega)) | refine sStep tab rfl ?_)
    | (refine isSlice ?_; first | refine sTake tab rfl rfl ?_ | refine sDrop tab rfl rfl ?_ | refine sStep tab rfl ?_)
    | (refine isCall ?_; first | (refine awpL_appr tab rfl ?_ (by decide) ?_; (· omega)) | (refine awpL_appm (f := rsD) tab rfl (rfz1 _) ?_ (by decide) ?_; (· omega)) | (refine awpL_appm (f := rsD) tab rfl rfl ?_ (by decide) ?_; (· omega)) | refine sApp tab rfl ?_ | refine sApp0 tab rfl ?_ | refine sStep tab rfl ?_)
    | (refine isMk ?_; first | refine sMk tab rfl (Int.toNat_natCast _) ?_ | refine sMk tab rfl rfl ?_ | refine sStep tab rfl ?_)
    | (refine isStore ?_; first | refine sSt tab rfl (Nat.mul_one _) ?_ | refine sStep tab rfl ?_)
    | (refine isOps ?_; refine sStep tab rfl ?_) | refine awp_block ?_ | refine awp_skip ?_ | (refine awp_exit ?_; show awp _ _ _ _)
    | (refine isCond ?_; refine awp_cond rfl (fun e => ?_) (fun e => ?_) <;> (first | (exfalso; exact Bool.noConfusion e) | (revert e; first | refine tt_in ?_ | refine ff_in ?_) | skip)) | refine awp_ret ⟨_, _, rfl, ok, ?_⟩)
  · rename_i h3
    have i1 : i < a.length := by omega
    have i2 : i < b.length := by omega
    have g1 : a.getD i [] ∈ a := by rw [List.getD, List.getElem?_eq_getElem i1]; exact List.getElem_mem i1
    have g2 : b.getD i [] ∈ b := by rw [List.getD, List.getElem?_eq_getElem i2]; exact List.getElem_mem i2
    refine awp_region_mono tab mixed 9 (by kernel_rfl) (s1 := ?s2) ?run2 ?tail2
    case run2 =>
      repeat' (first
        | exact MRun.nil
        | refine mOff rfl rfl ?_ | refine mWrap rfl rfl rfl ?_ | refine mLdu rfl rfl rfl ((Nat.mul_one _).trans (Int.toNat_natCast _)) ?_ | refine mLdu rfl rfl rfl (Nat.mul_one _) ?_
        | (refine MRun.cons rfl rfl (Mono1.ldr rfl rfl (Int.toNat_natCast _) ?_) ?_; (· omega)) | (refine MRun.cons rfl rfl (Mono1.ldm (f := rsD) [] rfl rfl ((Nat.mul_one _).trans (Int.toNat_natCast _)) ?_) ?_; (· omega)) | (refine MRun.cons rfl rfl (Mono1.ldm (f := D.str) ByteArray.empty rfl rfl ((Nat.mul_one _).trans (Int.toNat_natCast _)) ?_) ?_; (· omega))
        | refine mQuiet rfl rfl rfl ?_ | refine mLit rfl rfl rfl ?_
        | refine MRun.cons rfl rfl (Mono1.call rfl rfl rfl rfl (ref03_SameList _ _ (ha _ g1).1 (hb _ g2).1 (ha _ g1).2 (hb _ g2).2)) ?_)
    repeat' (first
      | refine awp_seq ?_ | refine awp_region ?_ | refine awpL_then ?_ | refine awpL_in ?_
      | (refine isBin ?_; first | refine sShr tab rfl ?_ | refine sQuo tab rfl ?_ | refine sRem tab rfl ?_ | (first | refine sDec tab rfl (fun _ => ?_) (fun _ => ?_) | refine sNdec tab rfl (fun _ => ?_) (fun _ => ?_)) <;> (try (exfalso; first | omega | (rename_i hq; exact hq rfl) | (rename_i hq; exact Bool.noConfusion hq))) | refine sWrap tab rfl ?_ | refine sBool tab rfl (fun e => ?_) (fun e => ?_) <;> (first | (exfalso; exact Bool.noConfusion e) | (revert e; first | refine tt_in ?_ | refine ff_in ?_) | skip) | refine sStep tab rfl ?_)
      | (refine isConv ?_; first | refine sConv tab rfl ?_ | refine sConvR tab rfl rfl ?_ | refine sStep tab rfl ?_)
      | (refine isUn ?_; first | refine sNot tab rfl (fun e => ?_) (fun e => ?_) <;> (first | (exfalso; exact Bool.noConfusion e) | (revert e; first | refine tt_in ?_ | refine ff_in ?_) | skip) | refine sUn tab rfl ?_ | refine sUnR tab rfl rfl ?_ | refine sStep tab rfl ?_)
      | (refine isLoad ?_; first | refine sLdu tab rfl ((Nat.mul_one _).trans (Int.toNat_natCast _)) ?_ | refine sLdu tab rfl (Nat.mul_one _) ?_ | (refine awpL_ldr tab rfl (Int.toNat_natCast _) ?_ ?_; (· omega)) | (refine awpL_ldm (f := rsD) [] tab rfl ((Nat.mul_one _).trans (Int.toNat_natCast _)) ?_ ?_; (· omega)) | (refine awpL_ldm (f := D.str) ByteArray.empty tab rfl ((Nat.mul_one _).trans (Int.toNat_natCast _)) ?_ ?_; (· omega)) | refine sStep tab rfl ?_)
      | (refine isSlice ?_; first | refine sTake tab rfl rfl ?_ | refine sDrop tab rfl rfl ?_ | refine sStep tab rfl ?_)
      | (refine isCall ?_; first | (refine awpL_appr tab rfl ?_ (by decide) ?_; (· omega)) | (refine awpL_appm (f := rsD) tab rfl (rfz1 _) ?_ (by decide) ?_; (· omega)) | (refine awpL_appm (f := rsD) tab rfl rfl ?_ (by decide) ?_; (· omega)) | refine sApp tab rfl ?_ | refine sApp0 tab rfl ?_ | refine sStep tab rfl ?_)
      | (refine isMk ?_; first | refine sMk tab rfl (Int.toNat_natCast _) ?_ | refine sMk tab rfl rfl ?_ | refine sStep tab rfl ?_)
      | (refine isStore ?_; first | refine sSt tab rfl (Nat.mul_one _) ?_ | refine sStep tab rfl ?_)
      | (refine isOps ?_; refine sStep tab rfl ?_) | refine awp_block ?_ | refine awp_skip ?_ | (refine awp_exit ?_; show awp _ _ _ _)
      | (refine isCond ?_; refine awp_cond rfl (fun e => ?_) (fun e => ?_) <;> (first | (exfalso; exact Bool.noConfusion e) | (revert e; first | refine tt_in ?_ | refine ff_in ?_) | skip)) | refine awp_ret ⟨_, _, rfl, ok, ?_⟩)
    · rw [decide_eq_false (fun e' => by subst e'; simp at e)]; rfl
    · exact ⟨i + 1, ⟨by omega, take_ext [] h2 (by omega) (by omega) (of_decide_eq_true e)⟩, by omega, ⟨rfl, rfl, iv (by omega), trivial⟩, trivial⟩
  · rw [List.take_of_length_le (by omega), List.take_of_length_le (by omega)] at h2
    rw [decide_eq_true h2]; rfl
end Go.Proofs.YtcblkjmnigbiiaaDoor
