/-
  A statement of the seat: what its contract is, and the claim. Conditions: as each says.
-/
import Derived.Test.YtlphlodailailaaGreatS60
import Derived.Test.YtlphlodailailaaGreatA09
set_option linter.unusedVariables false
set_option linter.unusedSimpArgs false
set_option maxHeartbeats 8000000
namespace Go.Proofs.YtlphlodailailaaGreat
open Go.Vw
attribute [local irreducible] awp awpL awpR

theorem polynomial_EvalK (f : List Rat) (x : R3) (K L : Nat) (hl : f.length ≤ 40) (ho : ∀ y ∈ f, okQ K y) (hx : RatOk x L) (hK : 1 < K) (hL : 1 < L) (hKL : K + L ≤ 2000) : Ret Tryz.prog 36 [qsD f, rD x] (· = qD (evalP f (rv x))) ∧ okQ 100000 (evalP f (rv x)) := by
  have hk : ∀ k, k ≤ f.length → okQ 100000 (hornK f (rv x) k) := fun k hk2 => by
    refine (horn_ok ho (okQ_rv hx hL) hK k hk2).mono ?_
    have := Nat.mul_le_mul (show k ≤ 40 by omega) hKL
    omega
  have he := polynomial_Eval (f.map rq) x (by rw [List.length_map]; omega) (rqs_ok fun y hy => (ho y hy).mono (by omega)) (hx.up (by omega)) (by rw [map_rv_rqL, List.length_map]; exact hk)
  rw [map_rv_rqL] at he
  refine ⟨he.args (leQRs f (LeT.refl _)), ?_⟩
  have := hk f.length (Nat.le_refl _)
  rwa [horn_all] at this
theorem polynomial_EvalR (l : List R3) (x : R3) (K L : Nat) (hl : l.length ≤ 40) (ho : ∀ r ∈ l, RatOk r K) (hx : RatOk x L) (hK : 1 < K) (hL : 1 < L) (hKL : K + L ≤ 2000) : Ret Tryz.prog 36 [rsD l, rD x] (· = qD (evalP (l.map rv) (rv x))) ∧ okQ 100000 (evalP (l.map rv) (rv x)) := by
  have oq : ∀ y ∈ l.map rv, okQ K y := fun y hy => by
    obtain ⟨r, hr, rfl⟩ := List.mem_map.1 hy
    exact okQ_rv (ho r hr) hK
  have hk : ∀ k, k ≤ l.length → okQ 100000 (hornK (l.map rv) (rv x) k) := fun k hk2 => by
    refine (horn_ok oq (okQ_rv hx hL) hK k (by rw [List.length_map]; exact hk2)).mono ?_
    have := Nat.mul_le_mul (show k ≤ 40 by omega) hKL
    omega
  refine ⟨polynomial_Eval l x (by omega) (fun r hr => (ho r hr).up (by omega)) (hx.up (by omega)) hk, ?_⟩
  have := hk (l.map rv).length (by rw [List.length_map]; omega)
  rwa [horn_all] at this
theorem sameQ_of (x y : Rat) (h : x = y) (hx : okQ 1000000 x) : Ret Tryz.prog 29 [qD x, qD y] (· = .bool true) := by
  have := ref03_SameQ x x (hx.mono (by decide)) (hx.mono (by decide))
  rw [decide_eq_true rfl] at this
  rw [← h]; exact this
theorem ring_true (p q : List R3) (x : R3) (hp : ∀ r ∈ p, RawR r) (hq : ∀ r ∈ q, RawR r) (hx : RawR x) (np : p.length ≤ 9223372036854775807) (nq : q.length ≤ 9223372036854775807) : Ret Tryz.prog 6 [rsD p, rsD q, rD x] (· = .bool true) := by
  have aw := law05_awake
  have l1 := made_LightList p 5 hp np (by decide)
  have l2 := made_LightList q 5 hq nq (by decide)
  have l3 := made_LightR x hx
  have hmx := hx
  rw [show (decide (p.length ≤ 5) && p.all lightR) = lightLs p 5 from rfl] at l1
  rw [show (decide (q.length ≤ 5) && q.all lightR) = lightLs q 5 from rfl] at l2
  obtain ⟨_, _, hx3, hx4⟩ := hx
  by_cases hL : lightLs p 5 = true
  · rw [hL] at l1
    obtain ⟨p5, op⟩ := lightLs_ok hp hL
    by_cases hM : lightLs q 5 = true
    · rw [hM] at l2
      obtain ⟨q5, oq⟩ := lightLs_ok hq hM
      by_cases hX : lightR x = true
      · rw [hX] at l3
        have ox := hmx.light hX
        by_cases hm : x.2.1.length ≤ 2
        · obtain ⟨e1, o1⟩ := polynomial_EvalR p x 9 9 (by omega) op ox (by decide) (by decide) (by decide)
          obtain ⟨e2, o2⟩ := polynomial_EvalR q x 9 9 (by omega) oq ox (by decide) (by decide) (by decide)
          have kp : ∀ y ∈ p.map rv, okQ 9 y := fun y hy => by
            obtain ⟨r, hr, rfl⟩ := List.mem_map.1 hy
            exact okQ_rv (op r hr) (by decide)
          have kq : ∀ y ∈ q.map rv, okQ 9 y := fun y hy => by
            obtain ⟨r, hr, rfl⟩ := List.mem_map.1 hy
            exact okQ_rv (oq r hr) (by decide)
          have a1 := polynomial_Add p q (by omega) (by omega) (fun r hr => (op r hr).up (by decide)) (fun r hr => (oq r hr).up (by decide))
          have b1 := polynomial_Sub p q (by omega) (by omega) (fun r hr => (op r hr).up (by decide)) (fun r hr => (oq r hr).up (by decide))
          have m1 := polynomial_Mul p q 9 (by omega) (by omega) op oq (by decide) (by
            have := Nat.mul_le_mul_left 9 (show 2 * p.length + 3 ≤ 13 by omega)
            omega)
          have la : (trimP (addC (p.map rv) (q.map rv))).length ≤ 40 := (tr_trim (addC (p.map rv) (q.map rv))).len_lt fun i hi => by
            rw [cf_trim, cf_add, cf_ge (by rw [List.length_map]; omega), cf_ge (by rw [List.length_map]; omega)]; grind
          have lb : (trimP (subC (p.map rv) (q.map rv))).length ≤ 40 := (tr_trim (subC (p.map rv) (q.map rv))).len_lt fun i hi => by
            rw [cf_trim, cf_sub, cf_ge (by rw [List.length_map]; omega), cf_ge (by rw [List.length_map]; omega)]; grind
          have lm : (trimP (mulC (p.map rv) (q.map rv))).length ≤ 40 := (tr_trim (mulC (p.map rv) (q.map rv))).len_lt fun i hi => by
            rw [cf_trim]
            exact (mul_high (p.map rv) (q.map rv) p.length q.length (fun i hi => cf_ge (by rw [List.length_map]; omega)) (fun i hi => cf_ge (by rw [List.length_map]; omega))).2 i (by omega)
          have oa : ∀ y ∈ trimP (addC (p.map rv) (q.map rv)), okQ 200 y := cf_ok fun i => by
            rw [cf_trim, cf_add]; exact ((ok_cf kp (by decide) i).add (ok_cf kq (by decide) i)).mono (by decide)
          have ob : ∀ y ∈ trimP (subC (p.map rv) (q.map rv)), okQ 200 y := cf_ok fun i => by
            rw [cf_trim, cf_sub]; exact ((ok_cf kp (by decide) i).sub (ok_cf kq (by decide) i)).mono (by decide)
          have om : ∀ y ∈ trimP (mulC (p.map rv) (q.map rv)), okQ 200 y := cf_ok fun i => by
            rw [cf_trim, ← rowV_all]
            refine (ok_row kp kq (by decide) (Nat.le_refl _) 0 i).mono ?_
            rw [List.length_map]
            omega
          obtain ⟨e3, o3⟩ := polynomial_EvalK _ x 200 9 la oa ox (by decide) (by decide) (by decide)
          obtain ⟨e4, o4⟩ := polynomial_EvalK _ x 200 9 lb ob ox (by decide) (by decide) (by decide)
          obtain ⟨e5, o5⟩ := polynomial_EvalK _ x 200 9 lm om ox (by decide) (by decide) (by decide)
          have s3 := eval_add (p.map rv) (q.map rv) (rv x)
          have s4 := eval_sub (p.map rv) (q.map rv) (rv x)
          have s5 := eval_mul (p.map rv) (q.map rv) (rv x)
          rw [← eval_trim] at s3 s4 s5
          have t3 := ref03_AddQ _ _ (o1.mono (by decide)) (o2.mono (by decide))
          have t4 := ref03_SubQ _ _ (o1.mono (by decide)) (o2.mono (by decide))
          have t5 := ref03_MulQ _ _ (o1.mono (by decide)) (o2.mono (by decide))
          have u3 := sameQ_of _ _ s3 (o3.mono (by decide))
          have u4 := sameQ_of _ _ s4 (o4.mono (by decide))
          have u5 := sameQ_of _ _ s5 (o5.mono (by decide))
          clear kp kq oa ob om o1 o2 o3 o4 o5 s3 s4 s5 hp hq hL hM op oq
          generalize trimP (addC (p.map rv) (q.map rv)) = A at *
          generalize trimP (subC (p.map rv) (q.map rv)) = B at *
          generalize trimP (mulC (p.map rv) (q.map rv)) = M at *
          generalize evalP (p.map rv) (rv x) = v1 at *
          generalize evalP (q.map rv) (rv x) = v2 at *
          generalize evalP A (rv x) = v3 at *
          generalize evalP B (rv x) = v4 at *
          generalize evalP M (rv x) = v5 at *
          generalize v1 + v2 = w3 at *
          generalize v1 - v2 = w4 at *
          generalize v1 * v2 = w5 at *
          refine ret_of_awp tab Tryz.func6 rfl rfl (Nat.le_of_ble_eq_true rfl) (fun w0 F0 => ?_)
          repeat' (first
            | (show awpL _ _ _ _ _; first | refine goL ?_ | refine cl 34 tt rfl rfl rfl (hr := l1) (k := ?_) | refine cl 34 tt rfl rfl rfl (hr := l2) (k := ?_) | refine cl 35 tt rfl rfl rfl (hr := l3) (k := ?_) | refine cl 15 tt rfl rfl rfl (hr := aw) (k := ?_) | refine cl 36 tt rfl rfl rfl (hr := e1) (k := ?_) | refine cl 36 tt rfl rfl rfl (hr := e2) (k := ?_) | refine cl 36 tt rfl rfl rfl (hr := e3) (k := ?_) | refine cl 36 tt rfl rfl rfl (hr := e4) (k := ?_) | refine cl 36 tt rfl rfl rfl (hr := e5) (k := ?_) | refine cl 37 tt rfl rfl rfl (hr := a1) (k := ?_) | refine cl 39 tt rfl rfl rfl (hr := b1) (k := ?_) | refine cl 33 tt rfl rfl rfl (hr := m1) (k := ?_) | refine cl 38 tt rfl rfl rfl (hr := t3) (k := ?_) | refine cl 40 tt rfl rfl rfl (hr := t4) (k := ?_) | refine cl 41 tt rfl rfl rfl (hr := t5) (k := ?_) | refine cl 29 tt rfl rfl rfl (hr := u3) (k := ?_) | refine cl 29 tt rfl rfl rfl (hr := u4) (k := ?_) | refine cl 29 tt rfl rfl rfl (hr := u5) (k := ?_) | (refine gdLG ?_ ?_ <;> intro _ <;> try (exfalso; omega)))
            | (show awp _ _ _ _; first | refine goA ?_ | refine rgK 3 8 [7, 8] ?_ | refine rg 4 31 ?_ | (refine cdG ?_ ?_ <;> intro _ <;> try (exfalso; omega)))
            | (show andThen _ _ _ _; refine goN ?_)
            | (show inBlock _ _ _ _; refine goB ?_)
            | (show awpR _ _ _ _ _ _ _; first | refine goR ?_ | refine clR 34 tt rfl rfl rfl (hr := l1) (k := ?_) | refine clR 34 tt rfl rfl rfl (hr := l2) (k := ?_) | refine clR 35 tt rfl rfl rfl (hr := l3) (k := ?_) | refine clR 15 tt rfl rfl rfl (hr := aw) (k := ?_) | refine clR 36 tt rfl rfl rfl (hr := e1) (k := ?_) | refine clR 36 tt rfl rfl rfl (hr := e2) (k := ?_) | refine clR 36 tt rfl rfl rfl (hr := e3) (k := ?_) | refine clR 36 tt rfl rfl rfl (hr := e4) (k := ?_) | refine clR 36 tt rfl rfl rfl (hr := e5) (k := ?_) | refine clR 37 tt rfl rfl rfl (hr := a1) (k := ?_) | refine clR 39 tt rfl rfl rfl (hr := b1) (k := ?_) | refine clR 33 tt rfl rfl rfl (hr := m1) (k := ?_) | refine clR 38 tt rfl rfl rfl (hr := t3) (k := ?_) | refine clR 40 tt rfl rfl rfl (hr := t4) (k := ?_) | refine clR 41 tt rfl rfl rfl (hr := t5) (k := ?_) | refine clR 29 tt rfl rfl rfl (hr := u3) (k := ?_) | refine clR 29 tt rfl rfl rfl (hr := u4) (k := ?_) | refine clR 29 tt rfl rfl rfl (hr := u5) (k := ?_) | (refine gdRG ?_ ?_ <;> intro _ <;> try (exfalso; omega)))
            | (show retPost _ _ _ _ _; refine finG ?_))
          all_goals rfl
        · clear hp hq op oq
          refine ret_of_awp tab Tryz.func6 rfl rfl (Nat.le_of_ble_eq_true rfl) (fun w0 F0 => ?_)
          repeat' (first
            | (show awpL _ _ _ _ _; first | refine goL ?_ | refine cl 34 tt rfl rfl rfl (hr := l1) (k := ?_) | refine cl 34 tt rfl rfl rfl (hr := l2) (k := ?_) | refine cl 35 tt rfl rfl rfl (hr := l3) (k := ?_) | refine cl 15 tt rfl rfl rfl (hr := aw) (k := ?_) | (refine gdLG ?_ ?_ <;> intro _ <;> try (exfalso; omega)))
            | (show awp _ _ _ _; first | refine goA ?_ | refine rgK 3 8 [7, 8] ?_ | refine rg 4 31 ?_ | (refine cdG ?_ ?_ <;> intro _ <;> try (exfalso; omega)))
            | (show andThen _ _ _ _; refine goN ?_)
            | (show inBlock _ _ _ _; refine goB ?_)
            | (show awpR _ _ _ _ _ _ _; first | refine goR ?_ | refine clR 34 tt rfl rfl rfl (hr := l1) (k := ?_) | refine clR 34 tt rfl rfl rfl (hr := l2) (k := ?_) | refine clR 35 tt rfl rfl rfl (hr := l3) (k := ?_) | refine clR 15 tt rfl rfl rfl (hr := aw) (k := ?_) | (refine gdRG ?_ ?_ <;> intro _ <;> try (exfalso; omega)))
            | (show retPost _ _ _ _ _; refine finG ?_))
          all_goals rfl
      · rw [Bool.eq_false_iff.2 hX] at l3
        clear hp hq op oq
        refine ret_of_awp tab Tryz.func6 rfl rfl (Nat.le_of_ble_eq_true rfl) (fun w0 F0 => ?_)
        repeat' (first
          | (show awpL _ _ _ _ _; first | refine goL ?_ | refine cl 34 tt rfl rfl rfl (hr := l1) (k := ?_) | refine cl 34 tt rfl rfl rfl (hr := l2) (k := ?_) | refine cl 35 tt rfl rfl rfl (hr := l3) (k := ?_) | refine cl 15 tt rfl rfl rfl (hr := aw) (k := ?_) | (refine gdLG ?_ ?_ <;> intro _ <;> try (exfalso; omega)))
          | (show awp _ _ _ _; first | refine goA ?_ | refine rgK 3 8 [7, 8] ?_ | refine rg 4 31 ?_ | (refine cdG ?_ ?_ <;> intro _ <;> try (exfalso; omega)))
          | (show andThen _ _ _ _; refine goN ?_)
          | (show inBlock _ _ _ _; refine goB ?_)
          | (show awpR _ _ _ _ _ _ _; first | refine goR ?_ | refine clR 34 tt rfl rfl rfl (hr := l1) (k := ?_) | refine clR 34 tt rfl rfl rfl (hr := l2) (k := ?_) | refine clR 35 tt rfl rfl rfl (hr := l3) (k := ?_) | refine clR 15 tt rfl rfl rfl (hr := aw) (k := ?_) | (refine gdRG ?_ ?_ <;> intro _ <;> try (exfalso; omega)))
          | (show retPost _ _ _ _ _; refine finG ?_))
        all_goals rfl
    · rw [Bool.eq_false_iff.2 hM] at l2
      clear hp hq op
      refine ret_of_awp tab Tryz.func6 rfl rfl (Nat.le_of_ble_eq_true rfl) (fun w0 F0 => ?_)
      repeat' (first
        | (show awpL _ _ _ _ _; first | refine goL ?_ | refine cl 34 tt rfl rfl rfl (hr := l1) (k := ?_) | refine cl 34 tt rfl rfl rfl (hr := l2) (k := ?_) | refine cl 15 tt rfl rfl rfl (hr := aw) (k := ?_) | (refine gdLG ?_ ?_ <;> intro _ <;> try (exfalso; omega)))
        | (show awp _ _ _ _; first | refine goA ?_ | refine rgK 3 8 [7, 8] ?_ | refine rg 4 31 ?_ | (refine cdG ?_ ?_ <;> intro _ <;> try (exfalso; omega)))
        | (show andThen _ _ _ _; refine goN ?_)
        | (show inBlock _ _ _ _; refine goB ?_)
        | (show awpR _ _ _ _ _ _ _; first | refine goR ?_ | refine clR 34 tt rfl rfl rfl (hr := l1) (k := ?_) | refine clR 34 tt rfl rfl rfl (hr := l2) (k := ?_) | refine clR 15 tt rfl rfl rfl (hr := aw) (k := ?_) | (refine gdRG ?_ ?_ <;> intro _ <;> try (exfalso; omega)))
        | (show retPost _ _ _ _ _; refine finG ?_))
      all_goals rfl
  · rw [Bool.eq_false_iff.2 hL] at l1
    clear hp hq
    refine ret_of_awp tab Tryz.func6 rfl rfl (Nat.le_of_ble_eq_true rfl) (fun w0 F0 => ?_)
    repeat' (first
      | (show awpL _ _ _ _ _; first | refine goL ?_ | refine cl 34 tt rfl rfl rfl (hr := l1) (k := ?_) | refine cl 15 tt rfl rfl rfl (hr := aw) (k := ?_) | (refine gdLG ?_ ?_ <;> intro _ <;> try (exfalso; omega)))
      | (show awp _ _ _ _; first | refine goA ?_ | refine rgK 3 8 [7, 8] ?_ | refine rg 4 31 ?_ | (refine cdG ?_ ?_ <;> intro _ <;> try (exfalso; omega)))
      | (show andThen _ _ _ _; refine goN ?_)
      | (show inBlock _ _ _ _; refine goB ?_)
      | (show awpR _ _ _ _ _ _ _; first | refine goR ?_ | refine clR 34 tt rfl rfl rfl (hr := l1) (k := ?_) | refine clR 15 tt rfl rfl rfl (hr := aw) (k := ?_) | (refine gdRG ?_ ?_ <;> intro _ <;> try (exfalso; omega)))
      | (show retPost _ _ _ _ _; refine finG ?_))
    all_goals rfl
end Go.Proofs.YtlphlodailailaaGreat
