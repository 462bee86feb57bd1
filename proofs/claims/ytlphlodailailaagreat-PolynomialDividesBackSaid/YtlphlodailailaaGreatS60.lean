/-
  A statement of the seat: what its contract is, and the claim. Conditions: as each says.
-/
import Derived.Test.YtlphlodailailaaGreatY14
import Derived.Test.YtlphlodailailaaGreatA08
set_option linter.unusedVariables false
set_option linter.unusedSimpArgs false
set_option maxHeartbeats 8000000
namespace Go.Proofs.YtlphlodailailaaGreat
open Go.Vw
attribute [local irreducible] awp awpL awpR

theorem law05_light (l : List R3) (h : ∀ r ∈ l, RawR r) (hn : l.length ≤ 9223372036854775807) : Ret Tryz.prog 42 [rsD l] (· = .bool (lightLs l 8)) := by
  have hl : Ret Tryz.prog 34 [rsD l, .int .i64 8] (· = .bool (lightLs l 8)) := made_LightList l 8 h hn (by decide)
  generalize lightLs l 8 = b at *
  refine ret_of_awp tab Tryz.func42 rfl rfl (Nat.le_of_ble_eq_true rfl) (fun w0 F0 => ?_)
  repeat' (first
    | (show awpL _ _ _ _ _; first | refine goL ?_ | refine cl 34 tt rfl rfl rfl (hr := hl) (k := ?_) | (refine gdLG ?_ ?_ <;> intro _ <;> try (exfalso; omega)))
    | (show awp _ _ _ _; first | refine goA ?_ | (refine cdG ?_ ?_ <;> intro _ <;> try (exfalso; omega)))
    | (show andThen _ _ _ _; refine goN ?_)
    | (show inBlock _ _ _ _; refine goB ?_)
    | (show retPost _ _ _ _ _; refine finG ?_))
  rfl
theorem lightLs_ok {l : List R3} {m : Nat} (h : ∀ r ∈ l, RawR r) (hl : lightLs l m = true) : l.length ≤ m ∧ ∀ r ∈ l, RatOk r 9 := by
  unfold lightLs at hl
  simp only [Bool.and_eq_true, decide_eq_true_eq, List.all_eq_true] at hl
  exact ⟨hl.1, fun r hr => (h r hr).light (hl.2 r hr)⟩
theorem light_ht {l : List R3} {m : Nat} (h : l.length ≤ m) (hl : ∀ r ∈ l, RatOk r 9) : HtP (m * 9 + 2) (trimP (l.map rv)) := by
  have h1 := HtP.of_ok (k := 9) (by decide) (l.map rv) (fun x hx => by
    obtain ⟨r, hr, rfl⟩ := List.mem_map.1 hx
    exact okQ_rv (hl r hr) (by decide))
  rw [List.length_map] at h1
  exact h1.trim.mono (by omega)
theorem polynomial_DivRR (a b : List R3) {h l : Nat} (d0 : trimP (b.map rv) ≠ []) (lp : a.length ≤ 100) (ka : ∀ r ∈ a, RatOk r 100000) (ld : b.length ≤ 100) (kb : ∀ r ∈ b, RatOk r h) (H : HtP h (trimP (a.map rv))) (L : HtP l (trimP (b.map rv))) (hb : h + ((trimP (a.map rv)).length + 1 - (trimP (b.map rv)).length) * l + l ≤ 20000) : Ret Tryz.prog 32 [rsD a, rsD b] (· = .tup [qsD (divP (trimP (a.map rv)) (trimP (b.map rv))).1, qsD (divP (trimP (a.map rv)) (trimP (b.map rv))).2, .int .i64 0]) := by
  have h1 := HtP.gt H
  obtain ⟨N, hN⟩ : ∃ N, (trimP (a.map rv)).length + 1 - (trimP (b.map rv)).length = N := ⟨_, rfl⟩
  rw [hN] at hb
  obtain ⟨K, hK⟩ : ∃ K, K = h + N * l + l := ⟨_, rfl⟩
  exact polynomial_Div a b K (fun r => ∃ k, k + (r.length + 1 - (trimP (b.map rv)).length) ≤ N ∧ HtP (h + k * l) r) lp ld ka (fun r hr => (kb r hr).up (by omega)) d0
    ⟨0, by omega, H.mono (by omega)⟩
    (by
      rintro r ⟨k, hk, hr⟩ tr hle
      refine ⟨k + 1, ?_, ?_⟩
      · have := stepRP_len tr (tr_trim _) d0 hle; omega
      · have := hr.stepRP L (lead_ne (tr_trim _) d0)
        refine this.mono ?_
        rw [Nat.add_mul, Nat.one_mul]; omega)
    (by
      rintro r ⟨k, hk, hr⟩ x hx
      refine (hr.okL x hx).mono ?_
      have := Nat.mul_le_mul_right l (show k ≤ N by omega)
      omega) (by omega) (by omega)
theorem cf_ok {p : List Rat} {K : Nat} (h : ∀ i, okQ K (cf p i)) : ∀ x ∈ p, okQ K x := fun x hx => by
  obtain ⟨i, hi, rfl⟩ := List.getElem_of_mem hx
  have := h i
  rwa [cf_eq hi] at this
theorem back_true (p d : List R3) (hp : ∀ r ∈ p, RawR r) (hd : ∀ r ∈ d, RawR r) (np : p.length ≤ 9223372036854775807) (nd : d.length ≤ 9223372036854775807) : Ret Tryz.prog 7 [rsD p, rsD d] (· = .bool true) := by
  have aw := law05_awake
  have l1 := law05_light p hp np
  have l2 := law05_light d hd nd
  by_cases hL : lightLs p 8 = true
  · rw [hL] at l1
    obtain ⟨p8, op⟩ := lightLs_ok hp hL
    by_cases hM : lightLs d 8 = true
    · rw [hM] at l2
      obtain ⟨d8, od⟩ := lightLs_ok hd hM
      have g1 := ref05_Degree d (by omega) (fun r hr => (od r hr).up (by decide))
      by_cases h0 : trimP (d.map rv) = []
      · have hl : (trimP (d.map rv)).length = 0 := by rw [h0]; rfl
        generalize trimP (d.map rv) = D at *
        clear hp hd op od hL hM
        refine ret_of_awp tab Tryz.func7 rfl rfl (Nat.le_of_ble_eq_true rfl) (fun w0 F0 => ?_)
        repeat' (first
          | (show awpL _ _ _ _ _; first | refine goL ?_ | refine cl 42 tt rfl rfl rfl (hr := l1) (k := ?_) | refine cl 42 tt rfl rfl rfl (hr := l2) (k := ?_) | refine cl 30 tt rfl rfl rfl (hr := g1) (k := ?_) | refine cl 15 tt rfl rfl rfl (hr := aw) (k := ?_) | (refine gdLG ?_ ?_ <;> intro _ <;> try (exfalso; omega)))
          | (show awp _ _ _ _; first | refine goA ?_ | (refine cdG ?_ ?_ <;> intro _ <;> try (exfalso; omega)))
          | (show andThen _ _ _ _; refine goN ?_)
          | (show inBlock _ _ _ _; refine goB ?_)
          | (show retPost _ _ _ _ _; refine finG ?_))
        rfl
      · have hl := ne_len h0
        have H := light_ht p8 op
        have L := light_ht d8 od
        have tp := tr_trim (p.map rv)
        have td := tr_trim (d.map rv)
        have lp := trim_len (p.map rv)
        have ld := trim_len (d.map rv)
        rw [List.length_map] at lp ld
        have hb : (8 * 9 + 2) + ((trimP (p.map rv)).length + 1 - (trimP (d.map rv)).length) * (8 * 9 + 2) + (8 * 9 + 2) ≤ 740 := by
          have := Nat.mul_le_mul_right (8 * 9 + 2) (show (trimP (p.map rv)).length + 1 - (trimP (d.map rv)).length ≤ 8 by omega)
          omega
        have v1 := polynomial_DivRR p d h0 (by omega) (fun r hr => (op r hr).up (by decide)) (by omega) (fun r hr => (od r hr).up (by decide)) H L (by omega)
        obtain ⟨s1, s2, s3, s4⟩ := divP_spec tp td h0
        obtain ⟨q1, q2⟩ := divP_q tp td h0 H L (by decide)
        have r1 := remP_ht tp td h0 H L
        have e1 : trimP (addC (trimP (mulC (divP (trimP (p.map rv)) (trimP (d.map rv))).1 (d.map rv))) (divP (trimP (p.map rv)) (trimP (d.map rv))).2) = trimP (p.map rv) := by
          exact (trim_ext ((add_eqv ((trim_eqv _).trans (mul_eqv_r _ (trim_eqv _).symm)) (Eqv.refl _)).trans s4)).trans (trim_trim _)
        rw [show remP (trimP (p.map rv)) (trimP (d.map rv)) = (divP (trimP (p.map rv)) (trimP (d.map rv))).2 from rfl] at r1
        have tX := ref05_Trim p (by omega) (fun r hr => (op r hr).up (by decide))
        have oX : ∀ x ∈ trimP (p.map rv), okQ 1000000 x := fun x hx => (H.okL x hx).mono (by decide)
        generalize (divP (trimP (p.map rv)) (trimP (d.map rv))).1 = Q at *
        generalize (divP (trimP (p.map rv)) (trimP (d.map rv))).2 = R at *
        have oQ : ∀ x ∈ Q, okQ 740 x := cf_ok fun i => (q1 i).mono hb
        have oR : ∀ x ∈ R, okQ 740 x := fun x hx => (r1.okL x hx).mono (by omega)
        have d1 := (polynomial_Degree (R.map rq) (by rw [List.length_map]; omega) (rqs_ok fun x hx => (oR x hx).mono (by decide))).args (leQRs R (LeT.refl _))
        rw [map_rv_rqL, trim_of s2] at d1
        have d2 := polynomial_Degree d (by omega) (fun r hr => (od r hr).up (by decide))
        have m1 := (polynomial_Mul (Q.map rq) d 740 (by rw [List.length_map]; omega) (by omega) (rqs_ok oQ) (fun r hr => (od r hr).up (by decide)) (by decide) (by
          rw [List.length_map]
          have := Nat.mul_le_mul_left 740 (show 2 * Q.length + 3 ≤ 2 * 8 + 3 + 2 by omega)
          omega)).args (leQRs Q (LeT.refl _))
        rw [map_rv_rqL] at m1
        have oD : ∀ x ∈ d.map rv, okQ 740 x := fun x hx => by
          obtain ⟨r, hr, rfl⟩ := List.mem_map.1 hx
          exact (okQ_rv (od r hr) (by decide)).mono (by decide)
        have oM : ∀ x ∈ trimP (mulC Q (d.map rv)), okQ 50000 x := fun x hx => cf_ok (fun i => by
          rw [← rowV_all]
          refine (ok_row oQ oD (by decide) (Nat.le_refl _) 0 i).mono ?_
          have := Nat.mul_le_mul_left (2 * 740) (show Q.length ≤ 9 by omega)
          omega) x (trim_mem hx)
        have lM : (trimP (mulC Q (d.map rv))).length ≤ 500 := (tr_trim (mulC Q (d.map rv))).len_lt fun i hi => by
          rw [cf_trim]
          exact (mul_high Q (d.map rv) Q.length d.length (fun i hi => cf_ge (by omega)) (fun i hi => cf_ge (by rw [List.length_map]; omega))).2 i (by omega)
        generalize trimP (mulC Q (d.map rv)) = W at *
        have a1 := (polynomial_Add (W.map rq) (R.map rq) (by rw [List.length_map]; exact lM) (by rw [List.length_map]; omega) (rqs_ok oM) (rqs_ok fun x hx => (oR x hx).mono (by decide))).args (leQRs W (leQRs R (LeT.refl _)))
        rw [map_rv_rqL, map_rv_rqL, e1] at a1
        have sm := ref03_SameListQ (trimP (p.map rv)) (trimP (p.map rv)) (by omega) (by omega) oX oX
        rw [decide_eq_true rfl] at sm
        generalize trimP (p.map rv) = P at *
        generalize trimP (d.map rv) = D at *
        clear hp hd op od hL hM H L tp td s1 s2 s4 q1 r1 e1 oX oQ oR oD oM
        refine ret_of_awp tab Tryz.func7 rfl rfl (Nat.le_of_ble_eq_true rfl) (fun w0 F0 => ?_)
        repeat' (first
          | (show awpL _ _ _ _ _; first | refine goL ?_ | refine cl 42 tt rfl rfl rfl (hr := l1) (k := ?_) | refine cl 42 tt rfl rfl rfl (hr := l2) (k := ?_) | refine cl 30 tt rfl rfl rfl (hr := g1) (k := ?_) | refine cl 15 tt rfl rfl rfl (hr := aw) (k := ?_) | refine cl 32 tt rfl rfl rfl (hr := v1) (k := ?_) | refine cl 43 tt rfl rfl rfl (hr := d1) (k := ?_) | refine cl 43 tt rfl rfl rfl (hr := d2) (k := ?_) | refine cl 33 tt rfl rfl rfl (hr := m1) (k := ?_) | refine cl 37 tt rfl rfl rfl (hr := a1) (k := ?_) | refine cl 44 tt rfl rfl rfl (hr := tX) (k := ?_) | refine cl 16 tt rfl rfl rfl (hr := sm) (k := ?_) | (refine gdLG ?_ ?_ <;> intro _ <;> try (exfalso; omega)))
          | (show awp _ _ _ _; first | refine goA ?_ | (refine cdG ?_ ?_ <;> intro _ <;> try (exfalso; omega)))
          | (show andThen _ _ _ _; refine goN ?_)
          | (show inBlock _ _ _ _; refine goB ?_)
          | (show retPost _ _ _ _ _; refine finG ?_))
        all_goals simp
    · rw [Bool.eq_false_iff.2 hM] at l2
      clear hp hd op
      refine ret_of_awp tab Tryz.func7 rfl rfl (Nat.le_of_ble_eq_true rfl) (fun w0 F0 => ?_)
      repeat' (first
        | (show awpL _ _ _ _ _; first | refine goL ?_ | refine cl 42 tt rfl rfl rfl (hr := l1) (k := ?_) | refine cl 42 tt rfl rfl rfl (hr := l2) (k := ?_) | refine cl 15 tt rfl rfl rfl (hr := aw) (k := ?_) | (refine gdLG ?_ ?_ <;> intro _ <;> try (exfalso; omega)))
        | (show awp _ _ _ _; first | refine goA ?_ | (refine cdG ?_ ?_ <;> intro _ <;> try (exfalso; omega)))
        | (show andThen _ _ _ _; refine goN ?_)
        | (show inBlock _ _ _ _; refine goB ?_)
        | (show retPost _ _ _ _ _; refine finG ?_))
      rfl
  · rw [Bool.eq_false_iff.2 hL] at l1
    clear hp hd
    refine ret_of_awp tab Tryz.func7 rfl rfl (Nat.le_of_ble_eq_true rfl) (fun w0 F0 => ?_)
    repeat' (first
      | (show awpL _ _ _ _ _; first | refine goL ?_ | refine cl 42 tt rfl rfl rfl (hr := l1) (k := ?_) | refine cl 15 tt rfl rfl rfl (hr := aw) (k := ?_) | (refine gdLG ?_ ?_ <;> intro _ <;> try (exfalso; omega)))
      | (show awp _ _ _ _; first | refine goA ?_ | (refine cdG ?_ ?_ <;> intro _ <;> try (exfalso; omega)))
      | (show andThen _ _ _ _; refine goN ?_)
      | (show inBlock _ _ _ _; refine goB ?_)
      | (show retPost _ _ _ _ _; refine finG ?_))
    rfl
end Go.Proofs.YtlphlodailailaaGreat
