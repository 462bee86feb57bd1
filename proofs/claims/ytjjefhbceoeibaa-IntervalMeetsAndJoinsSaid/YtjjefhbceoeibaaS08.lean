/-
  A statement of the seat: what its contract is, and the claim. Conditions: as each says.
-/
import Derived.Test.YtjjefhbceoeibaaN19
import Derived.Test.YtjjefhbceoeibaaA10
set_option linter.unusedVariables false
set_option linter.unusedSimpArgs false
set_option maxHeartbeats 16000000
namespace Go.Proofs.Ytjjefhbceoeibaa
open Go.Vw
attribute [local irreducible] awp awpL awpR

theorem meets_true (a b c d v : R3) (ha : RawR a) (hb : RawR b) (hc : RawR c) (hd : RawR d) (hv : RawR v) : Ret Try.prog 3 [iD a b, iD c d, rD v] (· = .bool true) := by
  have aw := law04_awake
  have l1 := law04_light a b ha hb
  have l2 := law04_light c d hc hd
  have l3 := made_Light v hv
  by_cases hl : ((lightR a && lightR b)) = true ∧ ((lightR c && lightR d)) = true ∧ (lightR v) = true
  · obtain ⟨t1, t2, t3⟩ := hl
    rw [t1] at l1
    rw [t2] at l2
    rw [t3] at l3
    rw [Bool.and_eq_true] at t1
    have oa := ha.light t1.1
    have ob := hb.light t1.2
    rw [Bool.and_eq_true] at t2
    have oc := hc.light t2.1
    have od := hd.light t2.2
    have ov := hv.light t3
    have pMeet := interval_Meet a b c d (oa.up (by decide)) (ob.up (by decide)) (oc.up (by decide)) (od.up (by decide))
    have pHull := interval_Hull a b c d (oa.up (by decide)) (ob.up (by decide)) (oc.up (by decide)) (od.up (by decide))
    have ca := interval_Contains a b v (oa.up (by decide)) (ob.up (by decide)) (ov.up (by decide))
    have cc := interval_Contains c d v (oc.up (by decide)) (od.up (by decide)) (ov.up (by decide))
    have ka : okQ 9 (rv a) := okQ_rv oa (by decide)
    have kb : okQ 9 (rv b) := okQ_rv ob (by decide)
    have ki := takeI_ok ka kb (by decide)
    have ei := takeI_le (rv a) (rv b)
    have kc : okQ 9 (rv c) := okQ_rv oc (by decide)
    have kd : okQ 9 (rv d) := okQ_rv od (by decide)
    have kj := takeI_ok kc kd (by decide)
    have ej := takeI_le (rv c) (rv d)
    have wa := fun (x : I2) (hx : x.1 ≤ x.2) (kx : okI 50000 x) => interval_Within (rq x.1) (rq x.2) a b (ok_rq kx.1) (ok_rq kx.2) (oa.up (by decide)) (ob.up (by decide))
    have wc := fun (x : I2) (hx : x.1 ≤ x.2) (kx : okI 50000 x) => interval_Within (rq x.1) (rq x.2) c d (ok_rq kx.1) (ok_rq kx.2) (oc.up (by decide)) (od.up (by decide))
    have ha1 := fun (x : I2) (hx : x.1 ≤ x.2) (kx : okI 50000 x) => interval_Within a b (rq x.1) (rq x.2) (oa.up (by decide)) (ob.up (by decide)) (ok_rq kx.1) (ok_rq kx.2)
    have hc1 := fun (x : I2) (hx : x.1 ≤ x.2) (kx : okI 50000 x) => interval_Within c d (rq x.1) (rq x.2) (oc.up (by decide)) (od.up (by decide)) (ok_rq kx.1) (ok_rq kx.2)
    have cm := fun (x : I2) (hx : x.1 ≤ x.2) (kx : okI 20000 x) => interval_ContainsI x hx (kx.mono (by decide)) v (ov.up (by decide))
    clear oa ob oc od ov ha hb hc hd hv t1 t2 t3 ka kb kc kd
    generalize takeI (rv a) (rv b) = i at *
    generalize takeI (rv c) (rv d) = j at *
    have hw := within_hull i j
    have kh := hullI_ok ki kj
    have eh := hullI_le i j
    have w1 : Ret Try.prog 10 [iD a b, iQ (hullI i j)] (· = .bool true) := by
      have := ha1 (hullI i j) eh (kh.mono (by decide))
      rw [rv_rq, rv_rq, takeI_of eh] at this
      rw [← hw.1]; exact this
    have w2 : Ret Try.prog 10 [iD c d, iQ (hullI i j)] (· = .bool true) := by
      have := hc1 (hullI i j) eh (kh.mono (by decide))
      rw [rv_rq, rv_rq, takeI_of eh] at this
      rw [← hw.2]; exact this
    have hmi := meetI_iff i j (rv v)
    cases hm : meetI i j with
    | none =>
      rw [hm] at pMeet hmi
      simp only at pMeet hmi
      clear ki kj ei ej hm hw kh eh ha1 hc1 wa wc cm
      generalize hullI i j = uH at *
      generalize containsI i (rv v) = q1 at *
      generalize containsI j (rv v) = q2 at *
      cases q1 <;> cases q2
      rotate_left 3
      · exact absurd hmi (by decide)
      all_goals
        clear hmi
        refine ret_of_awp tab Try.func3 rfl rfl (Nat.le_of_ble_eq_true rfl) (fun w0 F0 => ?_)
        repeat' (first
          | (show awpL _ _ _ _ _; first | refine goL ?_ | refine cl 4 tt rfl rfl rfl (hr := l1) (k := ?_) | refine cl 4 tt rfl rfl rfl (hr := l2) (k := ?_) | refine cl 5 tt rfl rfl rfl (hr := l3) (k := ?_) | refine cl 6 tt rfl rfl rfl (hr := aw) (k := ?_) | refine cl 7 tt rfl rfl rfl (hr := pMeet) (k := ?_) | refine cl 8 tt rfl rfl rfl (hr := pHull) (k := ?_) | refine cl 9 tt rfl rfl rfl (hr := ca) (k := ?_) | refine cl 9 tt rfl rfl rfl (hr := cc) (k := ?_) | refine cl 10 tt rfl rfl rfl (hr := w1) (k := ?_) | refine cl 10 tt rfl rfl rfl (hr := w2) (k := ?_) | (refine gdLD rfl rfl (fun _ => ?_) (fun _ => ?_) <;> try (exfalso; omega)) | (refine gdLN rfl rfl (fun _ => ?_) (fun _ => ?_) <;> try (exfalso; omega)) | refine gdL rfl rfl (fun _ => ?_) (fun _ => ?_))
          | (show awp _ _ _ _; first | refine goA ?_ | (refine awp_condD rfl (fun _ => ?_) (fun _ => ?_) <;> try (exfalso; omega)) | (refine awp_condN rfl (fun _ => ?_) (fun _ => ?_) <;> try (exfalso; omega)) | refine awp_cond rfl (fun _ => ?_) (fun _ => ?_))
          | (show andThen _ _ _ _; first | refine goN ?_)
          | (show inBlock _ _ _ _; first | refine goB ?_)
          | (show awpR _ _ _ _ _ _; first | refine goR ?_ | refine clR 4 tt rfl rfl rfl (hr := l1) (k := ?_) | refine clR 4 tt rfl rfl rfl (hr := l2) (k := ?_) | refine clR 5 tt rfl rfl rfl (hr := l3) (k := ?_) | refine clR 6 tt rfl rfl rfl (hr := aw) (k := ?_) | refine clR 7 tt rfl rfl rfl (hr := pMeet) (k := ?_) | refine clR 8 tt rfl rfl rfl (hr := pHull) (k := ?_) | refine clR 9 tt rfl rfl rfl (hr := ca) (k := ?_) | refine clR 9 tt rfl rfl rfl (hr := cc) (k := ?_) | refine clR 10 tt rfl rfl rfl (hr := w1) (k := ?_) | refine clR 10 tt rfl rfl rfl (hr := w2) (k := ?_) | (refine gdRD rfl rfl (fun _ => ?_) (fun _ => ?_) <;> try (exfalso; omega)) | (refine gdRN rfl rfl (fun _ => ?_) (fun _ => ?_) <;> try (exfalso; omega)) | refine gdR rfl rfl (fun _ => ?_) (fun _ => ?_))
          | (show retPost _ _ _ _ _; first | refine finF true rfl rfl sc ?_ | refine finF false rfl rfl sc ?_ | refine finC false rfl rfl sc sc ?_ | refine finN rfl rfl sc ?_ | refine finL true rfl rfl sc rfl (LeR.cons rfl leL LeR.nil) ?_ | refine finE true rfl rfl sc ?_ | refine finE false rfl rfl sc ?_))
        all_goals rfl
    | some m =>
      rw [hm] at pMeet hmi
      simp only at pMeet hmi
      have hs := meetI_some hm
      have km := meetI_ok ki kj hm
      have w3 : Ret Try.prog 10 [iQ m, iD a b] (· = .bool true) := by
        have := wa m hs.1 (km.mono (by decide))
        rw [rv_rq, rv_rq, takeI_of hs.1] at this
        rw [← hs.2.1]; exact this
      have w4 : Ret Try.prog 10 [iQ m, iD c d] (· = .bool true) := by
        have := wc m hs.1 (km.mono (by decide))
        rw [rv_rq, rv_rq, takeI_of hs.1] at this
        rw [← hs.2.2.1]; exact this
      have c3 : Ret Try.prog 9 [iQ m, rD v] (· = .bool (containsI m (rv v))) := cm m hs.1 (km.mono (by decide))
      clear ki kj ei ej hm hw kh eh ha1 hc1 wa wc cm hs km
      rw [← hmi] at c3
      clear hmi
      generalize hullI i j = uH at *
      generalize containsI i (rv v) = q1 at *
      generalize containsI j (rv v) = q2 at *
      cases q1 <;> cases q2
      all_goals
        refine ret_of_awp tab Try.func3 rfl rfl (Nat.le_of_ble_eq_true rfl) (fun w0 F0 => ?_)
        repeat' (first
          | (show awpL _ _ _ _ _; first | refine goL ?_ | refine cl 4 tt rfl rfl rfl (hr := l1) (k := ?_) | refine cl 4 tt rfl rfl rfl (hr := l2) (k := ?_) | refine cl 5 tt rfl rfl rfl (hr := l3) (k := ?_) | refine cl 6 tt rfl rfl rfl (hr := aw) (k := ?_) | refine cl 7 tt rfl rfl rfl (hr := pMeet) (k := ?_) | refine cl 8 tt rfl rfl rfl (hr := pHull) (k := ?_) | refine cl 9 tt rfl rfl rfl (hr := ca) (k := ?_) | refine cl 9 tt rfl rfl rfl (hr := cc) (k := ?_) | refine cl 9 tt rfl rfl rfl (hr := c3) (k := ?_) | refine cl 10 tt rfl rfl rfl (hr := w1) (k := ?_) | refine cl 10 tt rfl rfl rfl (hr := w2) (k := ?_) | refine cl 10 tt rfl rfl rfl (hr := w3) (k := ?_) | refine cl 10 tt rfl rfl rfl (hr := w4) (k := ?_) | (refine gdLD rfl rfl (fun _ => ?_) (fun _ => ?_) <;> try (exfalso; omega)) | (refine gdLN rfl rfl (fun _ => ?_) (fun _ => ?_) <;> try (exfalso; omega)) | refine gdL rfl rfl (fun _ => ?_) (fun _ => ?_))
          | (show awp _ _ _ _; first | refine goA ?_ | (refine awp_condD rfl (fun _ => ?_) (fun _ => ?_) <;> try (exfalso; omega)) | (refine awp_condN rfl (fun _ => ?_) (fun _ => ?_) <;> try (exfalso; omega)) | refine awp_cond rfl (fun _ => ?_) (fun _ => ?_))
          | (show andThen _ _ _ _; first | refine goN ?_)
          | (show inBlock _ _ _ _; first | refine goB ?_)
          | (show awpR _ _ _ _ _ _; first | refine goR ?_ | refine clR 4 tt rfl rfl rfl (hr := l1) (k := ?_) | refine clR 4 tt rfl rfl rfl (hr := l2) (k := ?_) | refine clR 5 tt rfl rfl rfl (hr := l3) (k := ?_) | refine clR 6 tt rfl rfl rfl (hr := aw) (k := ?_) | refine clR 7 tt rfl rfl rfl (hr := pMeet) (k := ?_) | refine clR 8 tt rfl rfl rfl (hr := pHull) (k := ?_) | refine clR 9 tt rfl rfl rfl (hr := ca) (k := ?_) | refine clR 9 tt rfl rfl rfl (hr := cc) (k := ?_) | refine clR 9 tt rfl rfl rfl (hr := c3) (k := ?_) | refine clR 10 tt rfl rfl rfl (hr := w1) (k := ?_) | refine clR 10 tt rfl rfl rfl (hr := w2) (k := ?_) | refine clR 10 tt rfl rfl rfl (hr := w3) (k := ?_) | refine clR 10 tt rfl rfl rfl (hr := w4) (k := ?_) | (refine gdRD rfl rfl (fun _ => ?_) (fun _ => ?_) <;> try (exfalso; omega)) | (refine gdRN rfl rfl (fun _ => ?_) (fun _ => ?_) <;> try (exfalso; omega)) | refine gdR rfl rfl (fun _ => ?_) (fun _ => ?_))
          | (show retPost _ _ _ _ _; first | refine finF true rfl rfl sc ?_ | refine finF false rfl rfl sc ?_ | refine finC false rfl rfl sc sc ?_ | refine finN rfl rfl sc ?_ | refine finL true rfl rfl sc rfl (LeR.cons rfl leL LeR.nil) ?_ | refine finE true rfl rfl sc ?_ | refine finE false rfl rfl sc ?_))
        all_goals rfl
  · generalize ((lightR a && lightR b)) = z0 at *
    generalize ((lightR c && lightR d)) = z1 at *
    generalize (lightR v) = z2 at *
    cases z0 <;> cases z1 <;> cases z2
    rotate_left 7
    · exact absurd ⟨rfl, rfl, rfl⟩ hl
    all_goals
      refine ret_of_awp tab Try.func3 rfl rfl (Nat.le_of_ble_eq_true rfl) (fun w0 F0 => ?_)
      repeat' (first
        | (show awpL _ _ _ _ _; first | refine goL ?_ | refine cl 4 tt rfl rfl rfl (hr := l1) (k := ?_) | refine cl 4 tt rfl rfl rfl (hr := l2) (k := ?_) | refine cl 5 tt rfl rfl rfl (hr := l3) (k := ?_) | refine cl 6 tt rfl rfl rfl (hr := aw) (k := ?_) | (refine gdLD rfl rfl (fun _ => ?_) (fun _ => ?_) <;> try (exfalso; omega)) | (refine gdLN rfl rfl (fun _ => ?_) (fun _ => ?_) <;> try (exfalso; omega)) | refine gdL rfl rfl (fun _ => ?_) (fun _ => ?_))
        | (show awp _ _ _ _; first | refine goA ?_ | (refine awp_condD rfl (fun _ => ?_) (fun _ => ?_) <;> try (exfalso; omega)) | (refine awp_condN rfl (fun _ => ?_) (fun _ => ?_) <;> try (exfalso; omega)) | refine awp_cond rfl (fun _ => ?_) (fun _ => ?_))
        | (show andThen _ _ _ _; first | refine goN ?_)
        | (show inBlock _ _ _ _; first | refine goB ?_)
        | (show awpR _ _ _ _ _ _; first | refine goR ?_ | refine clR 4 tt rfl rfl rfl (hr := l1) (k := ?_) | refine clR 4 tt rfl rfl rfl (hr := l2) (k := ?_) | refine clR 5 tt rfl rfl rfl (hr := l3) (k := ?_) | refine clR 6 tt rfl rfl rfl (hr := aw) (k := ?_) | (refine gdRD rfl rfl (fun _ => ?_) (fun _ => ?_) <;> try (exfalso; omega)) | (refine gdRN rfl rfl (fun _ => ?_) (fun _ => ?_) <;> try (exfalso; omega)) | refine gdR rfl rfl (fun _ => ?_) (fun _ => ?_))
        | (show retPost _ _ _ _ _; first | refine finF true rfl rfl sc ?_ | refine finF false rfl rfl sc ?_ | refine finC false rfl rfl sc sc ?_ | refine finN rfl rfl sc ?_ | refine finL true rfl rfl sc rfl (LeR.cons rfl leL LeR.nil) ?_ | refine finE true rfl rfl sc ?_ | refine finE false rfl rfl sc ?_))
      rfl
end Go.Proofs.Ytjjefhbceoeibaa
