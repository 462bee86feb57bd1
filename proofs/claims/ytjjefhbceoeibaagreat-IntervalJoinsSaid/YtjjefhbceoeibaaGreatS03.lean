/-
  A statement of the seat: what its contract is, and the claim. Conditions: as each says.
-/
import Derived.Test.YtjjefhbceoeibaaGreatN19
import Derived.Test.YtjjefhbceoeibaaGreatA11
set_option linter.unusedVariables false
set_option linter.unusedSimpArgs false
set_option maxHeartbeats 16000000
namespace Go.Proofs.YtjjefhbceoeibaaGreat
open Go.Vw
attribute [local irreducible] awp awpL awpR

theorem joins_true (a b c d v : R3) (n : Int) (ha : RawR a) (hb : RawR b) (hc : RawR c) (hd : RawR d) (hv : RawR v) (hn : -9223372036854775808 ≤ n) (hn2 : n < 9223372036854775808) : Ret Tryz.prog 6 [iD a b, iD c d, rD v, .int .i64 n] (· = .bool true) := by
  have aw := law04_awake
  have l1 := law04_light a b ha hb
  have l2 := law04_light c d hc hd
  have l3 := made_Light v hv
  by_cases hl : ((lightR a && lightR b)) = true ∧ ((lightR c && lightR d)) = true ∧ (lightR v) = true
  · obtain ⟨t1, t2, t3⟩ := hl
    rw [t1] at l1
    rw [t2] at l2
    rw [t3] at l3
    rw [Bool.and_eq_true] at t1
    have oa := ha.light t1.1
    have ob := hb.light t1.2
    rw [Bool.and_eq_true] at t2
    have oc := hc.light t2.1
    have od := hd.light t2.2
    have ov := hv.light t3
    have pHull := interval_Hull a b c d (oa.up (by decide)) (ob.up (by decide)) (oc.up (by decide)) (od.up (by decide))
    have rHull := ref04_Hull a b c d (oa.up (by decide)) (ob.up (by decide)) (oc.up (by decide)) (od.up (by decide))
    have pMeet := interval_Meet a b c d (oa.up (by decide)) (ob.up (by decide)) (oc.up (by decide)) (od.up (by decide))
    have rMeet := ref04_Meet a b c d (oa.up (by decide)) (ob.up (by decide)) (oc.up (by decide)) (od.up (by decide))
    have ka : okQ 9 (rv a) := okQ_rv oa (by decide)
    have kb : okQ 9 (rv b) := okQ_rv ob (by decide)
    have ki := takeI_ok ka kb (by decide)
    have ei := takeI_le (rv a) (rv b)
    have kc : okQ 9 (rv c) := okQ_rv oc (by decide)
    have kd : okQ 9 (rv d) := okQ_rv od (by decide)
    have kj := takeI_ok kc kd (by decide)
    have ej := takeI_le (rv c) (rv d)
    have kv : okQ 9 (rv v) := okQ_rv ov (by decide)
    have root : ∃ z : D, Ret Tryz.prog 21 [rD v, .int .i64 n] (· = z) ∧ Ret Tryz.prog 34 [rD v, .int .i64 n] (· = z) ∧ ((z = .tup [iD r0 r0, .int .i64 1]) ∨ ∃ u, okI 1000000 u ∧ z = .tup [iQ u, .int .i64 0]) := by
      by_cases he : (rv v).num < 0 ∨ n < 0 ∨ 128 < n
      · exact ⟨_, interval_RootE v n hn hn2 (ov.up (by decide)) he, ref04_RootE v n hn hn2 (ov.up (by decide)) he, .inl rfl⟩
      · obtain ⟨m, rfl⟩ : ∃ m : Nat, n = m := ⟨n.toNat, by omega⟩
        exact ⟨_, interval_RootN v m (by omega) (ov.up (by decide)) (by omega), ref04_RootN v m (by omega) (ov.up (by decide)) (by omega), .inr ⟨_, (rootI_ok kv (by omega) (by decide)).mono (by decide), rfl⟩⟩
    obtain ⟨z, pR, rR, hz⟩ := root
    clear oa ob oc od ov ha hb hc hd hv t1 t2 t3 ka kb kc kd kv
    generalize takeI (rv a) (rv b) = i at *
    generalize takeI (rv c) (rv d) = j at *
    have sH := same_I _ ((hullI_ok ki kj).mono (by decide))
    have s0 := same_0
    generalize hullI i j = uH at *
    cases hm : meetI i j with
    | none =>
      rw [hm] at pMeet rMeet
      simp only at pMeet rMeet
      rcases hz with rfl | ⟨u, hu, rfl⟩
      · clear ki kj ei ej hm
        refine ret_of_awp tab Tryz.func6 rfl rfl (Nat.le_of_ble_eq_true rfl) (fun w0 F0 => ?_)
        repeat' (first
          | (show awpL _ _ _ _ _; first | refine goL ?_ | refine cl 10 tt rfl rfl rfl (hr := l1) (k := ?_) | refine cl 10 tt rfl rfl rfl (hr := l2) (k := ?_) | refine cl 19 tt rfl rfl rfl (hr := l3) (k := ?_) | refine cl 12 tt rfl rfl rfl (hr := aw) (k := ?_) | refine cl 36 tt rfl rfl rfl (hr := pHull) (k := ?_) | refine cl 37 tt rfl rfl rfl (hr := rHull) (k := ?_) | refine cl 35 tt rfl rfl rfl (hr := sH) (k := ?_) | refine cl 32 tt rfl rfl rfl (hr := pMeet) (k := ?_) | refine cl 33 tt rfl rfl rfl (hr := rMeet) (k := ?_) | refine cl 35 tt rfl rfl rfl (hr := s0) (k := ?_) | refine cl 21 tt rfl rfl rfl (hr := pR) (k := ?_) | refine cl 34 tt rfl rfl rfl (hr := rR) (k := ?_) | (refine gdLD rfl rfl (fun _ => ?_) (fun _ => ?_) <;> try (exfalso; omega)) | (refine gdLN rfl rfl (fun _ => ?_) (fun _ => ?_) <;> try (exfalso; omega)) | refine gdL rfl rfl (fun _ => ?_) (fun _ => ?_))
          | (show awp _ _ _ _; first | refine goA ?_ | refine awp_reg 7 28 mixed (by kernel_rfl) (by kernel_rfl) ?_ | (refine awp_condD rfl (fun _ => ?_) (fun _ => ?_) <;> try (exfalso; omega)) | (refine awp_condN rfl (fun _ => ?_) (fun _ => ?_) <;> try (exfalso; omega)) | refine awp_cond rfl (fun _ => ?_) (fun _ => ?_))
          | (show andThen _ _ _ _; first | refine goN ?_)
          | (show inBlock _ _ _ _; first | refine goB ?_)
          | (show awpR _ _ _ _ _ _; first | refine goR ?_ | refine clR 10 tt rfl rfl rfl (hr := l1) (k := ?_) | refine clR 10 tt rfl rfl rfl (hr := l2) (k := ?_) | refine clR 19 tt rfl rfl rfl (hr := l3) (k := ?_) | refine clR 12 tt rfl rfl rfl (hr := aw) (k := ?_) | refine clR 36 tt rfl rfl rfl (hr := pHull) (k := ?_) | refine clR 37 tt rfl rfl rfl (hr := rHull) (k := ?_) | refine clR 35 tt rfl rfl rfl (hr := sH) (k := ?_) | refine clR 32 tt rfl rfl rfl (hr := pMeet) (k := ?_) | refine clR 33 tt rfl rfl rfl (hr := rMeet) (k := ?_) | refine clR 35 tt rfl rfl rfl (hr := s0) (k := ?_) | refine clR 21 tt rfl rfl rfl (hr := pR) (k := ?_) | refine clR 34 tt rfl rfl rfl (hr := rR) (k := ?_) | (refine gdRD rfl rfl (fun _ => ?_) (fun _ => ?_) <;> try (exfalso; omega)) | (refine gdRN rfl rfl (fun _ => ?_) (fun _ => ?_) <;> try (exfalso; omega)) | refine gdR rfl rfl (fun _ => ?_) (fun _ => ?_))
          | (show retPost _ _ _ _ _; first | refine finF true rfl rfl sc ?_ | refine finF false rfl rfl sc ?_ | refine finC false rfl rfl sc sc ?_ | refine finN rfl rfl sc ?_ | refine finL true rfl rfl sc rfl (LeR.cons rfl leL LeR.nil) ?_ | refine finE true rfl rfl sc ?_ | refine finE false rfl rfl sc ?_))
        all_goals rfl
      · have sR := same_I _ hu
        clear ki kj ei ej hm hu
        refine ret_of_awp tab Tryz.func6 rfl rfl (Nat.le_of_ble_eq_true rfl) (fun w0 F0 => ?_)
        repeat' (first
          | (show awpL _ _ _ _ _; first | refine goL ?_ | refine cl 10 tt rfl rfl rfl (hr := l1) (k := ?_) | refine cl 10 tt rfl rfl rfl (hr := l2) (k := ?_) | refine cl 19 tt rfl rfl rfl (hr := l3) (k := ?_) | refine cl 12 tt rfl rfl rfl (hr := aw) (k := ?_) | refine cl 36 tt rfl rfl rfl (hr := pHull) (k := ?_) | refine cl 37 tt rfl rfl rfl (hr := rHull) (k := ?_) | refine cl 35 tt rfl rfl rfl (hr := sH) (k := ?_) | refine cl 32 tt rfl rfl rfl (hr := pMeet) (k := ?_) | refine cl 33 tt rfl rfl rfl (hr := rMeet) (k := ?_) | refine cl 35 tt rfl rfl rfl (hr := s0) (k := ?_) | refine cl 21 tt rfl rfl rfl (hr := pR) (k := ?_) | refine cl 34 tt rfl rfl rfl (hr := rR) (k := ?_) | refine cl 35 tt rfl rfl rfl (hr := sR) (k := ?_) | (refine gdLD rfl rfl (fun _ => ?_) (fun _ => ?_) <;> try (exfalso; omega)) | (refine gdLN rfl rfl (fun _ => ?_) (fun _ => ?_) <;> try (exfalso; omega)) | refine gdL rfl rfl (fun _ => ?_) (fun _ => ?_))
          | (show awp _ _ _ _; first | refine goA ?_ | refine awp_reg 7 28 mixed (by kernel_rfl) (by kernel_rfl) ?_ | (refine awp_condD rfl (fun _ => ?_) (fun _ => ?_) <;> try (exfalso; omega)) | (refine awp_condN rfl (fun _ => ?_) (fun _ => ?_) <;> try (exfalso; omega)) | refine awp_cond rfl (fun _ => ?_) (fun _ => ?_))
          | (show andThen _ _ _ _; first | refine goN ?_)
          | (show inBlock _ _ _ _; first | refine goB ?_)
          | (show awpR _ _ _ _ _ _; first | refine goR ?_ | refine clR 10 tt rfl rfl rfl (hr := l1) (k := ?_) | refine clR 10 tt rfl rfl rfl (hr := l2) (k := ?_) | refine clR 19 tt rfl rfl rfl (hr := l3) (k := ?_) | refine clR 12 tt rfl rfl rfl (hr := aw) (k := ?_) | refine clR 36 tt rfl rfl rfl (hr := pHull) (k := ?_) | refine clR 37 tt rfl rfl rfl (hr := rHull) (k := ?_) | refine clR 35 tt rfl rfl rfl (hr := sH) (k := ?_) | refine clR 32 tt rfl rfl rfl (hr := pMeet) (k := ?_) | refine clR 33 tt rfl rfl rfl (hr := rMeet) (k := ?_) | refine clR 35 tt rfl rfl rfl (hr := s0) (k := ?_) | refine clR 21 tt rfl rfl rfl (hr := pR) (k := ?_) | refine clR 34 tt rfl rfl rfl (hr := rR) (k := ?_) | refine clR 35 tt rfl rfl rfl (hr := sR) (k := ?_) | (refine gdRD rfl rfl (fun _ => ?_) (fun _ => ?_) <;> try (exfalso; omega)) | (refine gdRN rfl rfl (fun _ => ?_) (fun _ => ?_) <;> try (exfalso; omega)) | refine gdR rfl rfl (fun _ => ?_) (fun _ => ?_))
          | (show retPost _ _ _ _ _; first | refine finF true rfl rfl sc ?_ | refine finF false rfl rfl sc ?_ | refine finC false rfl rfl sc sc ?_ | refine finN rfl rfl sc ?_ | refine finL true rfl rfl sc rfl (LeR.cons rfl leL LeR.nil) ?_ | refine finE true rfl rfl sc ?_ | refine finE false rfl rfl sc ?_))
        all_goals rfl
    | some m =>
      rw [hm] at pMeet rMeet
      simp only at pMeet rMeet
      have sM := same_I _ ((meetI_ok ki kj hm).mono (by decide))
      rcases hz with rfl | ⟨u, hu, rfl⟩
      · clear ki kj ei ej hm
        refine ret_of_awp tab Tryz.func6 rfl rfl (Nat.le_of_ble_eq_true rfl) (fun w0 F0 => ?_)
        repeat' (first
          | (show awpL _ _ _ _ _; first | refine goL ?_ | refine cl 10 tt rfl rfl rfl (hr := l1) (k := ?_) | refine cl 10 tt rfl rfl rfl (hr := l2) (k := ?_) | refine cl 19 tt rfl rfl rfl (hr := l3) (k := ?_) | refine cl 12 tt rfl rfl rfl (hr := aw) (k := ?_) | refine cl 36 tt rfl rfl rfl (hr := pHull) (k := ?_) | refine cl 37 tt rfl rfl rfl (hr := rHull) (k := ?_) | refine cl 35 tt rfl rfl rfl (hr := sH) (k := ?_) | refine cl 32 tt rfl rfl rfl (hr := pMeet) (k := ?_) | refine cl 33 tt rfl rfl rfl (hr := rMeet) (k := ?_) | refine cl 35 tt rfl rfl rfl (hr := s0) (k := ?_) | refine cl 35 tt rfl rfl rfl (hr := sM) (k := ?_) | refine cl 21 tt rfl rfl rfl (hr := pR) (k := ?_) | refine cl 34 tt rfl rfl rfl (hr := rR) (k := ?_) | (refine gdLD rfl rfl (fun _ => ?_) (fun _ => ?_) <;> try (exfalso; omega)) | (refine gdLN rfl rfl (fun _ => ?_) (fun _ => ?_) <;> try (exfalso; omega)) | refine gdL rfl rfl (fun _ => ?_) (fun _ => ?_))
          | (show awp _ _ _ _; first | refine goA ?_ | refine awp_reg 7 28 mixed (by kernel_rfl) (by kernel_rfl) ?_ | (refine awp_condD rfl (fun _ => ?_) (fun _ => ?_) <;> try (exfalso; omega)) | (refine awp_condN rfl (fun _ => ?_) (fun _ => ?_) <;> try (exfalso; omega)) | refine awp_cond rfl (fun _ => ?_) (fun _ => ?_))
          | (show andThen _ _ _ _; first | refine goN ?_)
          | (show inBlock _ _ _ _; first | refine goB ?_)
          | (show awpR _ _ _ _ _ _; first | refine goR ?_ | refine clR 10 tt rfl rfl rfl (hr := l1) (k := ?_) | refine clR 10 tt rfl rfl rfl (hr := l2) (k := ?_) | refine clR 19 tt rfl rfl rfl (hr := l3) (k := ?_) | refine clR 12 tt rfl rfl rfl (hr := aw) (k := ?_) | refine clR 36 tt rfl rfl rfl (hr := pHull) (k := ?_) | refine clR 37 tt rfl rfl rfl (hr := rHull) (k := ?_) | refine clR 35 tt rfl rfl rfl (hr := sH) (k := ?_) | refine clR 32 tt rfl rfl rfl (hr := pMeet) (k := ?_) | refine clR 33 tt rfl rfl rfl (hr := rMeet) (k := ?_) | refine clR 35 tt rfl rfl rfl (hr := s0) (k := ?_) | refine clR 35 tt rfl rfl rfl (hr := sM) (k := ?_) | refine clR 21 tt rfl rfl rfl (hr := pR) (k := ?_) | refine clR 34 tt rfl rfl rfl (hr := rR) (k := ?_) | (refine gdRD rfl rfl (fun _ => ?_) (fun _ => ?_) <;> try (exfalso; omega)) | (refine gdRN rfl rfl (fun _ => ?_) (fun _ => ?_) <;> try (exfalso; omega)) | refine gdR rfl rfl (fun _ => ?_) (fun _ => ?_))
          | (show retPost _ _ _ _ _; first | refine finF true rfl rfl sc ?_ | refine finF false rfl rfl sc ?_ | refine finC false rfl rfl sc sc ?_ | refine finN rfl rfl sc ?_ | refine finL true rfl rfl sc rfl (LeR.cons rfl leL LeR.nil) ?_ | refine finE true rfl rfl sc ?_ | refine finE false rfl rfl sc ?_))
        all_goals rfl
      · have sR := same_I _ hu
        clear ki kj ei ej hm hu
        refine ret_of_awp tab Tryz.func6 rfl rfl (Nat.le_of_ble_eq_true rfl) (fun w0 F0 => ?_)
        repeat' (first
          | (show awpL _ _ _ _ _; first | refine goL ?_ | refine cl 10 tt rfl rfl rfl (hr := l1) (k := ?_) | refine cl 10 tt rfl rfl rfl (hr := l2) (k := ?_) | refine cl 19 tt rfl rfl rfl (hr := l3) (k := ?_) | refine cl 12 tt rfl rfl rfl (hr := aw) (k := ?_) | refine cl 36 tt rfl rfl rfl (hr := pHull) (k := ?_) | refine cl 37 tt rfl rfl rfl (hr := rHull) (k := ?_) | refine cl 35 tt rfl rfl rfl (hr := sH) (k := ?_) | refine cl 32 tt rfl rfl rfl (hr := pMeet) (k := ?_) | refine cl 33 tt rfl rfl rfl (hr := rMeet) (k := ?_) | refine cl 35 tt rfl rfl rfl (hr := sM) (k := ?_) | refine cl 21 tt rfl rfl rfl (hr := pR) (k := ?_) | refine cl 34 tt rfl rfl rfl (hr := rR) (k := ?_) | refine cl 35 tt rfl rfl rfl (hr := sR) (k := ?_) | (refine gdLD rfl rfl (fun _ => ?_) (fun _ => ?_) <;> try (exfalso; omega)) | (refine gdLN rfl rfl (fun _ => ?_) (fun _ => ?_) <;> try (exfalso; omega)) | refine gdL rfl rfl (fun _ => ?_) (fun _ => ?_))
          | (show awp _ _ _ _; first | refine goA ?_ | refine awp_reg 7 28 mixed (by kernel_rfl) (by kernel_rfl) ?_ | (refine awp_condD rfl (fun _ => ?_) (fun _ => ?_) <;> try (exfalso; omega)) | (refine awp_condN rfl (fun _ => ?_) (fun _ => ?_) <;> try (exfalso; omega)) | refine awp_cond rfl (fun _ => ?_) (fun _ => ?_))
          | (show andThen _ _ _ _; first | refine goN ?_)
          | (show inBlock _ _ _ _; first | refine goB ?_)
          | (show awpR _ _ _ _ _ _; first | refine goR ?_ | refine clR 10 tt rfl rfl rfl (hr := l1) (k := ?_) | refine clR 10 tt rfl rfl rfl (hr := l2) (k := ?_) | refine clR 19 tt rfl rfl rfl (hr := l3) (k := ?_) | refine clR 12 tt rfl rfl rfl (hr := aw) (k := ?_) | refine clR 36 tt rfl rfl rfl (hr := pHull) (k := ?_) | refine clR 37 tt rfl rfl rfl (hr := rHull) (k := ?_) | refine clR 35 tt rfl rfl rfl (hr := sH) (k := ?_) | refine clR 32 tt rfl rfl rfl (hr := pMeet) (k := ?_) | refine clR 33 tt rfl rfl rfl (hr := rMeet) (k := ?_) | refine clR 35 tt rfl rfl rfl (hr := sM) (k := ?_) | refine clR 21 tt rfl rfl rfl (hr := pR) (k := ?_) | refine clR 34 tt rfl rfl rfl (hr := rR) (k := ?_) | refine clR 35 tt rfl rfl rfl (hr := sR) (k := ?_) | (refine gdRD rfl rfl (fun _ => ?_) (fun _ => ?_) <;> try (exfalso; omega)) | (refine gdRN rfl rfl (fun _ => ?_) (fun _ => ?_) <;> try (exfalso; omega)) | refine gdR rfl rfl (fun _ => ?_) (fun _ => ?_))
          | (show retPost _ _ _ _ _; first | refine finF true rfl rfl sc ?_ | refine finF false rfl rfl sc ?_ | refine finC false rfl rfl sc sc ?_ | refine finN rfl rfl sc ?_ | refine finL true rfl rfl sc rfl (LeR.cons rfl leL LeR.nil) ?_ | refine finE true rfl rfl sc ?_ | refine finE false rfl rfl sc ?_))
        all_goals rfl
  · generalize ((lightR a && lightR b)) = z0 at *
    generalize ((lightR c && lightR d)) = z1 at *
    generalize (lightR v) = z2 at *
    cases z0 <;> cases z1 <;> cases z2
    rotate_left 7
    · exact absurd ⟨rfl, rfl, rfl⟩ hl
    all_goals
      refine ret_of_awp tab Tryz.func6 rfl rfl (Nat.le_of_ble_eq_true rfl) (fun w0 F0 => ?_)
      repeat' (first
        | (show awpL _ _ _ _ _; first | refine goL ?_ | refine cl 10 tt rfl rfl rfl (hr := l1) (k := ?_) | refine cl 10 tt rfl rfl rfl (hr := l2) (k := ?_) | refine cl 19 tt rfl rfl rfl (hr := l3) (k := ?_) | refine cl 12 tt rfl rfl rfl (hr := aw) (k := ?_) | (refine gdLD rfl rfl (fun _ => ?_) (fun _ => ?_) <;> try (exfalso; omega)) | (refine gdLN rfl rfl (fun _ => ?_) (fun _ => ?_) <;> try (exfalso; omega)) | refine gdL rfl rfl (fun _ => ?_) (fun _ => ?_))
        | (show awp _ _ _ _; first | refine goA ?_ | refine awp_reg 7 28 mixed (by kernel_rfl) (by kernel_rfl) ?_ | (refine awp_condD rfl (fun _ => ?_) (fun _ => ?_) <;> try (exfalso; omega)) | (refine awp_condN rfl (fun _ => ?_) (fun _ => ?_) <;> try (exfalso; omega)) | refine awp_cond rfl (fun _ => ?_) (fun _ => ?_))
        | (show andThen _ _ _ _; first | refine goN ?_)
        | (show inBlock _ _ _ _; first | refine goB ?_)
        | (show awpR _ _ _ _ _ _; first | refine goR ?_ | refine clR 10 tt rfl rfl rfl (hr := l1) (k := ?_) | refine clR 10 tt rfl rfl rfl (hr := l2) (k := ?_) | refine clR 19 tt rfl rfl rfl (hr := l3) (k := ?_) | refine clR 12 tt rfl rfl rfl (hr := aw) (k := ?_) | (refine gdRD rfl rfl (fun _ => ?_) (fun _ => ?_) <;> try (exfalso; omega)) | (refine gdRN rfl rfl (fun _ => ?_) (fun _ => ?_) <;> try (exfalso; omega)) | refine gdR rfl rfl (fun _ => ?_) (fun _ => ?_))
        | (show retPost _ _ _ _ _; first | refine finF true rfl rfl sc ?_ | refine finF false rfl rfl sc ?_ | refine finC false rfl rfl sc sc ?_ | refine finN rfl rfl sc ?_ | refine finL true rfl rfl sc rfl (LeR.cons rfl leL LeR.nil) ?_ | refine finE true rfl rfl sc ?_ | refine finE false rfl rfl sc ?_))
      rfl
end Go.Proofs.YtjjefhbceoeibaaGreat
