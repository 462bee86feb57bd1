/-
  A statement of the seat: what its contract is, and the claim. Conditions: as each says.
-/
import Derived.Test.YtdbfghgmoigohaaGreatS64
import Derived.Test.YtdbfghgmoigohaaGreatY20
import Derived.Test.YtdbfghgmoigohaaGreatA08
set_option linter.unusedVariables false
set_option linter.unusedSimpArgs false
set_option maxHeartbeats 8000000
namespace Go.Proofs.YtdbfghgmoigohaaGreat
open Go.Vw
attribute [local irreducible] awp awpL awpR

theorem polynomial_Div0 (a b : List R3) (d0 : trimP (b.map rv) = []) (ha : a.length ≤ 100) (hb : b.length ≤ 100) (ka : ∀ r ∈ a, RatOk r 1000000) (kb : ∀ r ∈ b, RatOk r 1000000) : Ret Tryz.prog 6 [rsD a, rsD b] (· = .tup [qsD [], qsD [], .int .i64 5]) := by
  have ta := polynomial_Trim a (by omega) (fun r hr => (ka r hr).up (by decide))
  have tb := polynomial_Trim b (by omega) (fun r hr => (kb r hr).up (by decide))
  have hl : (trimP (b.map rv)).length = 0 := by rw [d0]; rfl
  generalize trimP (a.map rv) = p at *
  generalize trimP (b.map rv) = d at *
  clear ka kb d0
  refine ret_of_awp tab Tryz.func6 rfl rfl (Nat.le_of_ble_eq_true rfl) (fun w0 F0 => ?_)
  repeat' (first
    | (show awpL _ _ _ _ _; first | refine goL ?_ | refine cl 20 tt rfl rfl rfl (hr := ta) (k := ?_) | refine cl 20 tt rfl rfl rfl (hr := tb) (k := ?_) | (refine gdLG ?_ ?_ <;> intro _ <;> try (exfalso; omega)))
    | (show awp _ _ _ _; first | refine goA ?_ | refine rg 7 20 ?_ | refine rg 11 17 ?_ | (refine cdG ?_ ?_ <;> intro _ <;> try (exfalso; omega)))
    | (show andThen _ _ _ _; refine goN ?_)
    | (show inBlock _ _ _ _; refine goB ?_)
    | (show awpR _ _ _ _ _ _ _; first | refine goR ?_ | refine clR 20 tt rfl rfl rfl (hr := ta) (k := ?_) | refine clR 20 tt rfl rfl rfl (hr := tb) (k := ?_) | (refine gdRG ?_ ?_ <;> intro _ <;> try (exfalso; omega)))
    | (show retPost _ _ _ _ _; refine finTG ?_))
  exact leT
theorem ref05_Div0 (a b : List R3) (d0 : trimP (b.map rv) = []) (ha : a.length ≤ 100) (hb : b.length ≤ 100) (ka : ∀ r ∈ a, RatOk r 1000000) (kb : ∀ r ∈ b, RatOk r 1000000) : Ret Tryz.prog 7 [rsD a, rsD b] (· = .tup [qsD [], qsD [], .int .i64 5]) := by
  have ta := ref05_Trim a (by omega) (fun r hr => (ka r hr).up (by decide))
  have tb := ref05_Trim b (by omega) (fun r hr => (kb r hr).up (by decide))
  have hl : (trimP (b.map rv)).length = 0 := by rw [d0]; rfl
  generalize trimP (a.map rv) = p at *
  generalize trimP (b.map rv) = d at *
  clear ka kb d0
  refine ret_of_awp tab Tryz.func7 rfl rfl (Nat.le_of_ble_eq_true rfl) (fun w0 F0 => ?_)
  repeat' (first
    | (show awpL _ _ _ _ _; first | refine goL ?_ | refine cl 24 tt rfl rfl rfl (hr := ta) (k := ?_) | refine cl 24 tt rfl rfl rfl (hr := tb) (k := ?_) | (refine gdLG ?_ ?_ <;> intro _ <;> try (exfalso; omega)))
    | (show awp _ _ _ _; first | refine goA ?_ | refine rgK 6 20 [8] ?_ | refine rg 7 6 ?_ | (refine cdG ?_ ?_ <;> intro _ <;> try (exfalso; omega)))
    | (show andThen _ _ _ _; refine goN ?_)
    | (show inBlock _ _ _ _; refine goB ?_)
    | (show awpR _ _ _ _ _ _ _; first | refine goR ?_ | refine clR 24 tt rfl rfl rfl (hr := ta) (k := ?_) | refine clR 24 tt rfl rfl rfl (hr := tb) (k := ?_) | (refine gdRG ?_ ?_ <;> intro _ <;> try (exfalso; omega)))
    | (show retPost _ _ _ _ _; refine finTG ?_))
  exact leT
theorem calculates_true (p q : List R3) (hp : ∀ r ∈ p, RawR r) (hq : ∀ r ∈ q, RawR r) (np : p.length ≤ 9223372036854775807) (nq : q.length ≤ 9223372036854775807) : Ret Tryz.prog 3 [rsD p, rsD q] (· = .bool true) := by
  have aw := law05_awake
  have l1 := law05_light p hp np
  have l2 := law05_light q hq nq
  by_cases hL : lightLs p 8 = true
  · rw [hL] at l1
    obtain ⟨p8, op⟩ := lightLs_ok hp hL
    by_cases hM : lightLs q 8 = true
    · rw [hM] at l2
      obtain ⟨q8, oq⟩ := lightLs_ok hq hM
      have kp := rvs_ok op (by decide)
      have kq := rvs_ok oq (by decide)
      have lp : (p.map rv).length ≤ 8 := by rw [List.length_map]; exact p8
      have lq : (q.map rv).length ≤ 8 := by rw [List.length_map]; exact q8
      have a1 := polynomial_Add p q (by omega) (by omega) (fun r hr => (op r hr).up (by decide)) (fun r hr => (oq r hr).up (by decide))
      have a2 := ref05_Add p q (by omega) (by omega) (fun r hr => (op r hr).up (by decide)) (fun r hr => (oq r hr).up (by decide))
      have t1 : (trimP (addC (p.map rv) (q.map rv))).length ≤ 8 := (tr_trim _).len_lt fun i hi => by rw [cf_trim, cf_add, cf_ge (p := p.map rv) (by omega), cf_ge (p := q.map rv) (by omega), Rat.add_zero]
      have t2 : (trimP (subC (p.map rv) (q.map rv))).length ≤ 8 := (tr_trim _).len_lt fun i hi => by rw [cf_trim, cf_sub, cf_ge (p := p.map rv) (by omega), cf_ge (p := q.map rv) (by omega)]; decide +kernel
      have t3 := mulT_le lp lq
      have s1 := sameQ (trimP (addC (p.map rv) (q.map rv))) (by omega) (cf_ok fun i => by
        rw [cf_trim, cf_add]
        exact ((ok_cf kp (by decide) i).add (ok_cf kq (by decide) i)).mono (by decide))
      have b1 := polynomial_Sub p q (by omega) (by omega) (fun r hr => (op r hr).up (by decide)) (fun r hr => (oq r hr).up (by decide))
      have b2 := ref05_Sub p q (by omega) (by omega) (fun r hr => (op r hr).up (by decide)) (fun r hr => (oq r hr).up (by decide))
      have s2 := sameQ (trimP (subC (p.map rv) (q.map rv))) (by omega) (cf_ok fun i => by
        rw [cf_trim, cf_sub]
        exact ((ok_cf kp (by decide) i).sub (ok_cf kq (by decide) i)).mono (by decide))
      have c1 := polynomial_Mul p q 9 (by omega) (by omega) (fun r hr => (op r hr).up (by decide)) (fun r hr => (oq r hr).up (by decide)) (by decide) (by omega)
      have c2 := ref05_Mul p q 9 (by omega) (by omega) (fun r hr => (op r hr).up (by decide)) (fun r hr => (oq r hr).up (by decide)) (by decide) (by omega)
      have s3 := sameQ (mulT (p.map rv) (q.map rv)) (by omega) (cf_ok fun i => by
        unfold mulT
        rw [cf_trim, ← rowV_all]
        refine (ok_row kp kq (by decide) (Nat.le_refl _) 0 i).mono ?_
        have := Nat.mul_le_mul_left (2 * 9) lp
        omega)
      unfold mulT at s3
      generalize trimP (addC (p.map rv) (q.map rv)) = A at *
      generalize trimP (subC (p.map rv) (q.map rv)) = B at *
      generalize trimP (mulC (p.map rv) (q.map rv)) = C at *
      by_cases h0 : trimP (q.map rv) = []
      · have d1 := polynomial_Div0 p q h0 (by omega) (by omega) (fun r hr => (op r hr).up (by decide)) (fun r hr => (oq r hr).up (by decide))
        have d2 := ref05_Div0 p q h0 (by omega) (by omega) (fun r hr => (op r hr).up (by decide)) (fun r hr => (oq r hr).up (by decide))
        have s4 := sameQ [] (by decide) (fun x hx => by simp at hx)
        clear hp hq op oq kp kq hL hM h0
        refine ret_of_awp tab Tryz.func3 rfl rfl (Nat.le_of_ble_eq_true rfl) (fun w0 F0 => ?_)
        repeat' (first
          | (show awpL _ _ _ _ _; first | refine goL ?_ | refine cl 4 tt rfl rfl rfl (hr := l1) (k := ?_) | refine cl 4 tt rfl rfl rfl (hr := l2) (k := ?_) | refine cl 5 tt rfl rfl rfl (hr := aw) (k := ?_) | refine cl 9 tt rfl rfl rfl (hr := a1) (k := ?_) | refine cl 10 tt rfl rfl rfl (hr := a2) (k := ?_) | refine cl 11 tt rfl rfl rfl (hr := b1) (k := ?_) | refine cl 12 tt rfl rfl rfl (hr := b2) (k := ?_) | refine cl 13 tt rfl rfl rfl (hr := c1) (k := ?_) | refine cl 14 tt rfl rfl rfl (hr := c2) (k := ?_) | refine cl 6 tt rfl rfl rfl (hr := d1) (k := ?_) | refine cl 7 tt rfl rfl rfl (hr := d2) (k := ?_) | refine cl 8 tt rfl rfl rfl (hr := s1) (k := ?_) | refine cl 8 tt rfl rfl rfl (hr := s2) (k := ?_) | refine cl 8 tt rfl rfl rfl (hr := s3) (k := ?_) | refine cl 8 tt rfl rfl rfl (hr := s4) (k := ?_) | (refine gdLG ?_ ?_ <;> intro _ <;> try (exfalso; omega)))
          | (show awp _ _ _ _; first | refine goA ?_ | (refine cdG ?_ ?_ <;> intro _ <;> try (exfalso; omega)))
          | (show andThen _ _ _ _; refine goN ?_)
          | (show inBlock _ _ _ _; refine goB ?_)
          | (show retPost _ _ _ _ _; refine finG ?_))
        all_goals rfl
      · have H := light_ht p8 op
        have L := light_ht q8 oq
        have tp := tr_trim (p.map rv)
        have td := tr_trim (q.map rv)
        have lp := trim_len (p.map rv)
        have ld := trim_len (q.map rv)
        have hn := ne_len h0
        rw [List.length_map] at lp ld
        have hb : (8 * 9 + 2) + ((trimP (p.map rv)).length + 1 - (trimP (q.map rv)).length) * (8 * 9 + 2) + (8 * 9 + 2) ≤ 740 := by
          have := Nat.mul_le_mul_right (8 * 9 + 2) (show (trimP (p.map rv)).length + 1 - (trimP (q.map rv)).length ≤ 8 by omega)
          omega
        have d1 := polynomial_DivRR p q h0 (by omega) (fun r hr => (op r hr).up (by decide)) (by omega) (fun r hr => (oq r hr).up (by decide)) H L (by omega)
        have d2 := ref05_Div p q h0 (by omega) (fun r hr => (op r hr).up (by decide)) (by omega) (fun r hr => (oq r hr).up (by decide)) H L (by omega)
        obtain ⟨e1, e2, e3, e4⟩ := divP_spec tp td h0
        obtain ⟨q1, q2⟩ := divP_q tp td h0 H L (by decide)
        have r1 := remP_ht tp td h0 H L
        rw [show remP (trimP (p.map rv)) (trimP (q.map rv)) = (divP (trimP (p.map rv)) (trimP (q.map rv))).2 from rfl] at r1
        have s4 := sameQ (divP (trimP (p.map rv)) (trimP (q.map rv))).1 (by omega) (cf_ok fun i => (q1 i).mono (by omega))
        have s5 := sameQ (divP (trimP (p.map rv)) (trimP (q.map rv))).2 (by omega) (fun x hx => (r1.okL x hx).mono (by omega))
        generalize (divP (trimP (p.map rv)) (trimP (q.map rv))).1 = Q at *
        generalize (divP (trimP (p.map rv)) (trimP (q.map rv))).2 = R at *
        clear hp hq op oq kp kq hL hM h0 H L tp td q1 r1 e1 e2 e3 e4
        refine ret_of_awp tab Tryz.func3 rfl rfl (Nat.le_of_ble_eq_true rfl) (fun w0 F0 => ?_)
        repeat' (first
          | (show awpL _ _ _ _ _; first | refine goL ?_ | refine cl 4 tt rfl rfl rfl (hr := l1) (k := ?_) | refine cl 4 tt rfl rfl rfl (hr := l2) (k := ?_) | refine cl 5 tt rfl rfl rfl (hr := aw) (k := ?_) | refine cl 9 tt rfl rfl rfl (hr := a1) (k := ?_) | refine cl 10 tt rfl rfl rfl (hr := a2) (k := ?_) | refine cl 11 tt rfl rfl rfl (hr := b1) (k := ?_) | refine cl 12 tt rfl rfl rfl (hr := b2) (k := ?_) | refine cl 13 tt rfl rfl rfl (hr := c1) (k := ?_) | refine cl 14 tt rfl rfl rfl (hr := c2) (k := ?_) | refine cl 6 tt rfl rfl rfl (hr := d1) (k := ?_) | refine cl 7 tt rfl rfl rfl (hr := d2) (k := ?_) | refine cl 8 tt rfl rfl rfl (hr := s1) (k := ?_) | refine cl 8 tt rfl rfl rfl (hr := s2) (k := ?_) | refine cl 8 tt rfl rfl rfl (hr := s3) (k := ?_) | refine cl 8 tt rfl rfl rfl (hr := s4) (k := ?_) | refine cl 8 tt rfl rfl rfl (hr := s5) (k := ?_) | (refine gdLG ?_ ?_ <;> intro _ <;> try (exfalso; omega)))
          | (show awp _ _ _ _; first | refine goA ?_ | (refine cdG ?_ ?_ <;> intro _ <;> try (exfalso; omega)))
          | (show andThen _ _ _ _; refine goN ?_)
          | (show inBlock _ _ _ _; refine goB ?_)
          | (show retPost _ _ _ _ _; refine finG ?_))
        all_goals rfl
    · rw [Bool.eq_false_iff.2 hM] at l2
      clear hp hq op
      refine ret_of_awp tab Tryz.func3 rfl rfl (Nat.le_of_ble_eq_true rfl) (fun w0 F0 => ?_)
      repeat' (first
        | (show awpL _ _ _ _ _; first | refine goL ?_ | refine cl 4 tt rfl rfl rfl (hr := l1) (k := ?_) | refine cl 4 tt rfl rfl rfl (hr := l2) (k := ?_) | refine cl 5 tt rfl rfl rfl (hr := aw) (k := ?_) | (refine gdLG ?_ ?_ <;> intro _ <;> try (exfalso; omega)))
        | (show awp _ _ _ _; first | refine goA ?_ | (refine cdG ?_ ?_ <;> intro _ <;> try (exfalso; omega)))
        | (show andThen _ _ _ _; refine goN ?_)
        | (show inBlock _ _ _ _; refine goB ?_)
        | (show retPost _ _ _ _ _; refine finG ?_))
      all_goals rfl
  · rw [Bool.eq_false_iff.2 hL] at l1
    clear hp hq
    refine ret_of_awp tab Tryz.func3 rfl rfl (Nat.le_of_ble_eq_true rfl) (fun w0 F0 => ?_)
    repeat' (first
      | (show awpL _ _ _ _ _; first | refine goL ?_ | refine cl 4 tt rfl rfl rfl (hr := l1) (k := ?_) | refine cl 5 tt rfl rfl rfl (hr := aw) (k := ?_) | (refine gdLG ?_ ?_ <;> intro _ <;> try (exfalso; omega)))
      | (show awp _ _ _ _; first | refine goA ?_ | (refine cdG ?_ ?_ <;> intro _ <;> try (exfalso; omega)))
      | (show andThen _ _ _ _; refine goN ?_)
      | (show inBlock _ _ _ _; refine goB ?_)
      | (show retPost _ _ _ _ _; refine finG ?_))
    all_goals rfl
end Go.Proofs.YtdbfghgmoigohaaGreat
