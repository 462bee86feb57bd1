/-
  A statement of the seat: what its contract is, and the claim. Conditions: as each says.
-/
import Derived.Test.YtjjefhbceoeibaaGreatN19
import Derived.Test.YtjjefhbceoeibaaGreatA11
set_option linter.unusedVariables false
set_option linter.unusedSimpArgs false
set_option maxHeartbeats 16000000
namespace Go.Proofs.YtjjefhbceoeibaaGreat
open Go.Vw
attribute [local irreducible] awp awpL awpR

theorem roots_true (v : R3) (n : Int) (hv : RawR v) (hn : -9223372036854775808 ≤ n) (hn2 : n < 9223372036854775808) : Ret Tryz.prog 4 [rD v, .int .i64 n] (· = .bool true) := by
  have aw := law04_awake
  have l1 := made_Light v hv
  cases ht : lightR v
  · rw [ht] at l1
    refine ret_of_awp tab Tryz.func4 rfl rfl (Nat.le_of_ble_eq_true rfl) (fun w0 F0 => ?_)
    repeat' (first
      | (show awpL _ _ _ _ _; first | refine goL ?_ | refine cl 19 tt rfl rfl rfl (hr := l1) (k := ?_) | refine cl 12 tt rfl rfl rfl (hr := aw) (k := ?_) | (refine gdLD rfl rfl (fun _ => ?_) (fun _ => ?_) <;> try (exfalso; omega)) | (refine gdLN rfl rfl (fun _ => ?_) (fun _ => ?_) <;> try (exfalso; omega)) | refine gdL rfl rfl (fun _ => ?_) (fun _ => ?_))
      | (show awp _ _ _ _; first | refine goA ?_ | refine awp_reg 6 12 mixed (by kernel_rfl) (by kernel_rfl) ?_ | refine awp_reg 9 8 mixed (by kernel_rfl) (by kernel_rfl) ?_ | refine awp_reg 10 23 mixed (by kernel_rfl) (by kernel_rfl) ?_ | (refine awp_condD rfl (fun _ => ?_) (fun _ => ?_) <;> try (exfalso; omega)) | (refine awp_condN rfl (fun _ => ?_) (fun _ => ?_) <;> try (exfalso; omega)) | refine awp_cond rfl (fun _ => ?_) (fun _ => ?_))
      | (show andThen _ _ _ _; first | refine goN ?_)
      | (show inBlock _ _ _ _; first | refine goB ?_)
      | (show awpR _ _ _ _ _ _; first | refine goR ?_ | refine clR 19 tt rfl rfl rfl (hr := l1) (k := ?_) | refine clR 12 tt rfl rfl rfl (hr := aw) (k := ?_) | (refine gdRD rfl rfl (fun _ => ?_) (fun _ => ?_) <;> try (exfalso; omega)) | (refine gdRN rfl rfl (fun _ => ?_) (fun _ => ?_) <;> try (exfalso; omega)) | refine gdR rfl rfl (fun _ => ?_) (fun _ => ?_))
      | (show retPost _ _ _ _ _; first | refine finF true rfl rfl sc ?_ | refine finF false rfl rfl sc ?_ | refine finC false rfl rfl sc sc ?_ | refine finN rfl rfl sc ?_ | refine finL true rfl rfl sc rfl (LeR.cons rfl leL LeR.nil) ?_ | refine finE true rfl rfl sc ?_ | refine finE false rfl rfl sc ?_))
    rfl
  · rw [ht] at l1
    have ov := hv.light ht
    have sg := ref03_Sign v (ov.up (by decide))
    have kv : okQ 9 (rv v) := okQ_rv ov (by decide)
    by_cases h0 : (rv v).num < 0
    · have hs : (rv v).num.sign < 0 := by rw [← Int.not_le, Int.sign_nonneg_iff]; omega
      generalize (rv v).num.sign = s0 at *
      refine ret_of_awp tab Tryz.func4 rfl rfl (Nat.le_of_ble_eq_true rfl) (fun w0 F0 => ?_)
      repeat' (first
        | (show awpL _ _ _ _ _; first | refine goL ?_ | refine cl 19 tt rfl rfl rfl (hr := l1) (k := ?_) | refine cl 17 tt rfl rfl rfl (hr := sg) (k := ?_) | refine cl 12 tt rfl rfl rfl (hr := aw) (k := ?_) | (refine gdLD rfl rfl (fun _ => ?_) (fun _ => ?_) <;> try (exfalso; omega)) | (refine gdLN rfl rfl (fun _ => ?_) (fun _ => ?_) <;> try (exfalso; omega)) | refine gdL rfl rfl (fun _ => ?_) (fun _ => ?_))
        | (show awp _ _ _ _; first | refine goA ?_ | refine awp_reg 6 12 mixed (by kernel_rfl) (by kernel_rfl) ?_ | refine awp_reg 9 8 mixed (by kernel_rfl) (by kernel_rfl) ?_ | refine awp_reg 10 23 mixed (by kernel_rfl) (by kernel_rfl) ?_ | (refine awp_condD rfl (fun _ => ?_) (fun _ => ?_) <;> try (exfalso; omega)) | (refine awp_condN rfl (fun _ => ?_) (fun _ => ?_) <;> try (exfalso; omega)) | refine awp_cond rfl (fun _ => ?_) (fun _ => ?_))
        | (show andThen _ _ _ _; first | refine goN ?_)
        | (show inBlock _ _ _ _; first | refine goB ?_)
        | (show awpR _ _ _ _ _ _; first | refine goR ?_ | refine clR 19 tt rfl rfl rfl (hr := l1) (k := ?_) | refine clR 17 tt rfl rfl rfl (hr := sg) (k := ?_) | refine clR 12 tt rfl rfl rfl (hr := aw) (k := ?_) | (refine gdRD rfl rfl (fun _ => ?_) (fun _ => ?_) <;> try (exfalso; omega)) | (refine gdRN rfl rfl (fun _ => ?_) (fun _ => ?_) <;> try (exfalso; omega)) | refine gdR rfl rfl (fun _ => ?_) (fun _ => ?_))
        | (show retPost _ _ _ _ _; first | refine finF true rfl rfl sc ?_ | refine finF false rfl rfl sc ?_ | refine finC false rfl rfl sc sc ?_ | refine finN rfl rfl sc ?_ | refine finL true rfl rfl sc rfl (LeR.cons rfl leL LeR.nil) ?_ | refine finE true rfl rfl sc ?_ | refine finE false rfl rfl sc ?_))
      rfl
    · have hs : 0 ≤ (rv v).num.sign := by rw [Int.sign_nonneg_iff]; omega
      have hv0 : 0 ≤ rv v := Rat.num_nonneg.1 (by omega)
      have md := made_ModI n 65 hn hn2 (by decide) (by decide)
      obtain ⟨m, hm⟩ : ∃ m : Nat, n % 65 = m := ⟨(n % 65).toNat, by omega⟩
      have hm2 : m ≤ 64 := by omega
      rw [hm] at md
      have pR := interval_RootN v m (by omega) (ov.up (by decide)) (by omega)
      have kr := rootI_ok kv (show m ≤ 128 by omega) (by decide)
      have er := rootI_le (v := rv v) m
      obtain ⟨r1, r2, r3, r4⟩ := rootI_spec hv0 m
      have kt := okQ_two (show m ≤ 128 by omega)
      have tw := ref04_Two m (by omega)
      have kw := kr.2.sub kr.1
      have mw := ref03_MulQ _ _ (kw.mono (by decide)) (kt.mono (by decide))
      have gw := ref03_SignQ _ ((kw.mul kt).mono (by decide))
      have hz := sign_zero_iff (q := ((rootI (rv v) m).2 - (rootI (rv v) m).1) * twoQ m)
      generalize rootI (rv v) m = i at *
      have pW := interval_Width (rq i.1) (rq i.2) (ok_rq (kr.1.mono (by decide))) (ok_rq (kr.2.mono (by decide)))
      rw [rv_rq, rv_rq, takeI_of er] at pW
      have sl := ref03_SignQ i.1 (kr.1.mono (by decide))
      have hsl : 0 ≤ i.1.num.sign := Int.sign_nonneg_iff.2 (Rat.num_nonneg.2 r1)
      have rS := ref04_Square (rq i.1) (rq i.2) (ok_rq (kr.1.mono (by decide))) (ok_rq (kr.2.mono (by decide)))
      rw [rv_rq, rv_rq, takeI_of er] at rS
      have rC := ref04_ContainsI (sqI i) (sqI_le er) ((sqI_ok kr (by decide)).mono (by decide)) v (ov.up (by decide))
      rw [r2] at rC
      have mLo := ref03_MulQ i.1 i.1 (kr.1.mono (by decide)) (kr.1.mono (by decide))
      have mHi := ref03_MulQ i.2 i.2 (kr.2.mono (by decide)) (kr.2.mono (by decide))
      have cLo := ref03_Compare (rq (i.1 * i.1)) v (ok_rq ((kr.1.mul kr.1).mono (by decide))) (ov.up (by decide))
      have f1 := ref03_FromIntQ 1 (by decide) (by decide)
      rw [show ((1 : Int) : Rat) = 1 from rfl] at f1
      have c1 := ref03_CompareQ (((i.2 - i.1) * twoQ m)) 1 ((kw.mul kt).mono (by decide)) (okQ_one.mono (by decide))
      have lHi := ref03_Less v (rq (i.2 * i.2)) (ov.up (by decide)) (ok_rq ((kr.2.mul kr.2).mono (by decide)))
      have lLo := ref03_Less (rq (i.1 * i.1)) v (ok_rq ((kr.1.mul kr.1).mono (by decide))) (ov.up (by decide))
      rw [rv_rq] at cLo lHi lLo
      by_cases hw : (i.2 - i.1) * twoQ m = 0
      · have h1 := r3 hw
        have hg := hz.2 hw
        rw [(cmpQ_zero _ _).2 h1] at cLo
        clear r1 r2 r3 r4 hz hw h1 kr kt kw kv ov hv f1 c1 lHi lLo mHi hv0 h0 er
        obtain ⟨lo, hi⟩ := i
        simp only at *
        generalize (lo * lo) = lo2 at *
        generalize ((hi - lo) * twoQ m).num.sign = sw at *
        generalize lo.num.sign = slo at *
        generalize (hi - lo) * twoQ m = w at *
        generalize hi - lo = wd at *
        generalize sqI (lo, hi) = sq at *
        generalize twoQ m = t at *
        generalize (rv v).num.sign = s0 at *
        refine ret_of_awp tab Tryz.func4 rfl rfl (Nat.le_of_ble_eq_true rfl) (fun w0 F0 => ?_)
        repeat' (first
          | (show awpL _ _ _ _ _; first | refine goL ?_ | refine cl 19 tt rfl rfl rfl (hr := l1) (k := ?_) | refine cl 17 tt rfl rfl rfl (hr := sg) (k := ?_) | refine cl 12 tt rfl rfl rfl (hr := aw) (k := ?_) | refine cl 20 tt rfl rfl rfl (hr := md) (k := ?_) | refine cl 21 tt rfl rfl rfl (hr := pR) (k := ?_) | refine cl 22 tt rfl rfl rfl (hr := pW) (k := ?_) | refine cl 23 tt rfl rfl rfl (hr := tw) (k := ?_) | refine cl 15 tt rfl rfl rfl (hr := mw) (k := ?_) | refine cl 17 tt rfl rfl rfl (hr := sl) (k := ?_) | refine cl 24 tt rfl rfl rfl (hr := rS) (k := ?_) | refine cl 18 tt rfl rfl rfl (hr := rC) (k := ?_) | refine cl 17 tt rfl rfl rfl (hr := gw) (k := ?_) | refine cl 15 tt rfl rfl rfl (hr := mLo) (k := ?_) | refine cl 25 tt rfl rfl rfl (hr := cLo) (k := ?_) | (refine gdLD rfl rfl (fun _ => ?_) (fun _ => ?_) <;> try (exfalso; omega)) | (refine gdLN rfl rfl (fun _ => ?_) (fun _ => ?_) <;> try (exfalso; omega)) | refine gdL rfl rfl (fun _ => ?_) (fun _ => ?_))
          | (show awp _ _ _ _; first | refine goA ?_ | refine awp_reg 6 12 mixed (by kernel_rfl) (by kernel_rfl) ?_ | refine awp_reg 9 8 mixed (by kernel_rfl) (by kernel_rfl) ?_ | refine awp_reg 10 23 mixed (by kernel_rfl) (by kernel_rfl) ?_ | (refine awp_condD rfl (fun _ => ?_) (fun _ => ?_) <;> try (exfalso; omega)) | (refine awp_condN rfl (fun _ => ?_) (fun _ => ?_) <;> try (exfalso; omega)) | refine awp_cond rfl (fun _ => ?_) (fun _ => ?_))
          | (show andThen _ _ _ _; first | refine goN ?_)
          | (show inBlock _ _ _ _; first | refine goB ?_)
          | (show awpR _ _ _ _ _ _; first | refine goR ?_ | refine clR 19 tt rfl rfl rfl (hr := l1) (k := ?_) | refine clR 17 tt rfl rfl rfl (hr := sg) (k := ?_) | refine clR 12 tt rfl rfl rfl (hr := aw) (k := ?_) | refine clR 20 tt rfl rfl rfl (hr := md) (k := ?_) | refine clR 21 tt rfl rfl rfl (hr := pR) (k := ?_) | refine clR 22 tt rfl rfl rfl (hr := pW) (k := ?_) | refine clR 23 tt rfl rfl rfl (hr := tw) (k := ?_) | refine clR 15 tt rfl rfl rfl (hr := mw) (k := ?_) | refine clR 17 tt rfl rfl rfl (hr := sl) (k := ?_) | refine clR 24 tt rfl rfl rfl (hr := rS) (k := ?_) | refine clR 18 tt rfl rfl rfl (hr := rC) (k := ?_) | refine clR 17 tt rfl rfl rfl (hr := gw) (k := ?_) | refine clR 15 tt rfl rfl rfl (hr := mLo) (k := ?_) | refine clR 25 tt rfl rfl rfl (hr := cLo) (k := ?_) | (refine gdRD rfl rfl (fun _ => ?_) (fun _ => ?_) <;> try (exfalso; omega)) | (refine gdRN rfl rfl (fun _ => ?_) (fun _ => ?_) <;> try (exfalso; omega)) | refine gdR rfl rfl (fun _ => ?_) (fun _ => ?_))
          | (show retPost _ _ _ _ _; first | refine finF true rfl rfl sc ?_ | refine finF false rfl rfl sc ?_ | refine finC false rfl rfl sc sc ?_ | refine finN rfl rfl sc ?_ | refine finL true rfl rfl sc rfl (LeR.cons rfl leL LeR.nil) ?_ | refine finE true rfl rfl sc ?_ | refine finE false rfl rfl sc ?_))
        all_goals rfl
      · obtain ⟨h1, h2, h3⟩ := r4 hw
        have hg := mt hz.1 hw
        rw [(cmpQ_zero _ _).2 h1] at c1
        rw [decide_eq_true h2] at lHi
        rw [decide_eq_true h3] at lLo
        clear r1 r2 r3 r4 hz hw h1 h2 h3 kr kt kw kv ov hv cLo hv0 h0 er
        obtain ⟨lo, hi⟩ := i
        simp only at *
        generalize (lo * lo) = lo2 at *
        generalize (hi * hi) = hi2 at *
        generalize ((hi - lo) * twoQ m).num.sign = sw at *
        generalize lo.num.sign = slo at *
        generalize (hi - lo) * twoQ m = w at *
        generalize hi - lo = wd at *
        generalize sqI (lo, hi) = sq at *
        generalize twoQ m = t at *
        generalize (rv v).num.sign = s0 at *
        refine ret_of_awp tab Tryz.func4 rfl rfl (Nat.le_of_ble_eq_true rfl) (fun w0 F0 => ?_)
        repeat' (first
          | (show awpL _ _ _ _ _; first | refine goL ?_ | refine cl 19 tt rfl rfl rfl (hr := l1) (k := ?_) | refine cl 17 tt rfl rfl rfl (hr := sg) (k := ?_) | refine cl 12 tt rfl rfl rfl (hr := aw) (k := ?_) | refine cl 20 tt rfl rfl rfl (hr := md) (k := ?_) | refine cl 21 tt rfl rfl rfl (hr := pR) (k := ?_) | refine cl 22 tt rfl rfl rfl (hr := pW) (k := ?_) | refine cl 23 tt rfl rfl rfl (hr := tw) (k := ?_) | refine cl 15 tt rfl rfl rfl (hr := mw) (k := ?_) | refine cl 17 tt rfl rfl rfl (hr := sl) (k := ?_) | refine cl 24 tt rfl rfl rfl (hr := rS) (k := ?_) | refine cl 18 tt rfl rfl rfl (hr := rC) (k := ?_) | refine cl 17 tt rfl rfl rfl (hr := gw) (k := ?_) | refine cl 26 tt rfl rfl rfl (hr := f1) (k := ?_) | refine cl 25 tt rfl rfl rfl (hr := c1) (k := ?_) | refine cl 15 tt rfl rfl rfl (hr := mHi) (k := ?_) | refine cl 27 tt rfl rfl rfl (hr := lHi) (k := ?_) | refine cl 15 tt rfl rfl rfl (hr := mLo) (k := ?_) | refine cl 27 tt rfl rfl rfl (hr := lLo) (k := ?_) | (refine gdLD rfl rfl (fun _ => ?_) (fun _ => ?_) <;> try (exfalso; omega)) | (refine gdLN rfl rfl (fun _ => ?_) (fun _ => ?_) <;> try (exfalso; omega)) | refine gdL rfl rfl (fun _ => ?_) (fun _ => ?_))
          | (show awp _ _ _ _; first | refine goA ?_ | refine awp_reg 6 12 mixed (by kernel_rfl) (by kernel_rfl) ?_ | refine awp_reg 9 8 mixed (by kernel_rfl) (by kernel_rfl) ?_ | refine awp_reg 10 23 mixed (by kernel_rfl) (by kernel_rfl) ?_ | (refine awp_condD rfl (fun _ => ?_) (fun _ => ?_) <;> try (exfalso; omega)) | (refine awp_condN rfl (fun _ => ?_) (fun _ => ?_) <;> try (exfalso; omega)) | refine awp_cond rfl (fun _ => ?_) (fun _ => ?_))
          | (show andThen _ _ _ _; first | refine goN ?_)
          | (show inBlock _ _ _ _; first | refine goB ?_)
          | (show awpR _ _ _ _ _ _; first | refine goR ?_ | refine clR 19 tt rfl rfl rfl (hr := l1) (k := ?_) | refine clR 17 tt rfl rfl rfl (hr := sg) (k := ?_) | refine clR 12 tt rfl rfl rfl (hr := aw) (k := ?_) | refine clR 20 tt rfl rfl rfl (hr := md) (k := ?_) | refine clR 21 tt rfl rfl rfl (hr := pR) (k := ?_) | refine clR 22 tt rfl rfl rfl (hr := pW) (k := ?_) | refine clR 23 tt rfl rfl rfl (hr := tw) (k := ?_) | refine clR 15 tt rfl rfl rfl (hr := mw) (k := ?_) | refine clR 17 tt rfl rfl rfl (hr := sl) (k := ?_) | refine clR 24 tt rfl rfl rfl (hr := rS) (k := ?_) | refine clR 18 tt rfl rfl rfl (hr := rC) (k := ?_) | refine clR 17 tt rfl rfl rfl (hr := gw) (k := ?_) | refine clR 26 tt rfl rfl rfl (hr := f1) (k := ?_) | refine clR 25 tt rfl rfl rfl (hr := c1) (k := ?_) | refine clR 15 tt rfl rfl rfl (hr := mHi) (k := ?_) | refine clR 27 tt rfl rfl rfl (hr := lHi) (k := ?_) | refine clR 15 tt rfl rfl rfl (hr := mLo) (k := ?_) | refine clR 27 tt rfl rfl rfl (hr := lLo) (k := ?_) | (refine gdRD rfl rfl (fun _ => ?_) (fun _ => ?_) <;> try (exfalso; omega)) | (refine gdRN rfl rfl (fun _ => ?_) (fun _ => ?_) <;> try (exfalso; omega)) | refine gdR rfl rfl (fun _ => ?_) (fun _ => ?_))
          | (show retPost _ _ _ _ _; first | refine finF true rfl rfl sc ?_ | refine finF false rfl rfl sc ?_ | refine finC false rfl rfl sc sc ?_ | refine finN rfl rfl sc ?_ | refine finL true rfl rfl sc rfl (LeR.cons rfl leL LeR.nil) ?_ | refine finE true rfl rfl sc ?_ | refine finE false rfl rfl sc ?_))
        all_goals rfl
end Go.Proofs.YtjjefhbceoeibaaGreat
