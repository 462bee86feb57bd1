/-
  A statement of the seat: what its contract is, and the claim. Conditions: as each says.
-/
import Derived.Test.YtlphlodailailaaGreatY30
import Derived.Test.YtlphlodailailaaGreatA09
set_option linter.unusedVariables false
set_option linter.unusedSimpArgs false
set_option maxHeartbeats 8000000
namespace Go.Proofs.YtlphlodailailaaGreat
open Go.Vw
attribute [local irreducible] awp awpL awpR

theorem interval_WidthI (X : I2) (oX : okI 150000 X) (h : X.1 ≤ X.2) : Ret Tryz.prog 101 [iQ X] (· = qD (X.2 - X.1)) := by
  have k := interval_Width (rq X.1) (rq X.2) (ok_rq (oX.1.mono (by decide))) (ok_rq (oX.2.mono (by decide)))
  rwa [rv_rq, rv_rq, takeI_of h] at k
theorem interval_MidI (X : I2) (oX : okI 150000 X) (h : X.1 ≤ X.2) : Ret Tryz.prog 102 [iQ X] (· = qD (mid2 X)) := by
  have k := interval_Mid (rq X.1) (rq X.2) (ok_rq (oX.1.mono (by decide))) (ok_rq (oX.2.mono (by decide)))
  rwa [rv_rq, rv_rq, takeI_of h] at k
abbrev cfn (p : List Rat) : Rat → Rat → Int := fun a b => cntF (ctr (trimP p)) a b
theorem polynomial_RefineO {p : List Rat} (hp : PolOk p) (X : I2) {D M : Nat} (D0 : D ≠ 0) (hD : D < 4294967296 * 4294967296) (hM : M < 4294967296 * 4294967296 * 4294967296) (d1 : Dy D M 0 X.1) (d2 : Dy D M 0 X.2) (n : Nat) (hn : n ≤ 128) (he : refErr p X n = 0) (K : Nat) (hK : K ≤ 10000) (k1 : hw (X.2 - X.1) K ≤ hw 1 n) (k2 : ∀ j, j < K → ¬ hw (X.2 - X.1) j ≤ hw 1 n) : Ret Tryz.prog 51 [qsD p, iQ X, .int .i64 n] (· = .tup [iQ (refK (cfn p) X K), .int .i64 0]) := by
  have oX : okI 150000 X := ⟨(d1.ok D0 hD hM).mono (by decide), (d2.ok D0 hD hM).mono (by decide)⟩
  have z0 : rq 0 = r0 := rq_zero'
  have dg := polynomial_DegreeQ p (by have := hp.len; omega) (fun x hx => (hp.ok x hx).mono (by decide))
  have vd := interval_ValidI X oX
  have hb : ¬ (trimP p = [] ∨ holdsB p X = false) := fun e => by
    unfold refErr at he
    rw [if_pos e] at he
    exact absurd he (by decide)
  have h0 : trimP p ≠ [] := fun e => hb (.inl e)
  have hh0 : holdsB p X = true := by
    cases e : holdsB p X
    · exact absurd (.inr e) hb
    · rfl
  have a : X.1 ≤ X.2 := by
    unfold holdsB at hh0
    rw [Bool.and_eq_true] at hh0
    exact of_decide_eq_true hh0.1
  have hl := Nat.le_trans (trim_len p) hp.len
  have l0 := ne_len h0
  rw [decide_eq_true a] at vd
  have hu := interval_HullS X oX a
  have nc := newCounterV hp h0
  have cm := rational_CompareQ X.1 X.2 (oX.1.mono (by decide)) (oX.2.mono (by decide))
  have ev := polynomial_EvalV hp X.1 oX.1
  have oe := (ref05_EvalV hp X.1 oX.1).2
  have sg := rational_SignQ (evalP p X.1) (oe.mono (by decide))
  have z := sign_zero_iff (q := evalP p X.1)
  have ct := countV hp h0 X.1 X.2 oX.1 oX.2
  have ctA := fun x y (hx : okQ 150000 x) (hy : okQ 150000 y) => countV hp h0 x y hx hy
  have f1 := rational_FromIntW 1 (by decide) (by decide)
  have f2 := rational_FromIntW 2 (by decide) (by decide)
  have hh : (if X.1 = X.2 then decide (evalP p X.1 = 0) else decide (cntF (ctr (trimP p)) X.1 X.2 = 1)) = true := by
    unfold holdsB cntV at hh0
    rwa [decide_eq_true a, Bool.true_and, if_neg h0] at hh0
  obtain ⟨Y, hY⟩ : ∃ Y : Nat → I2, ∀ k, Y k = refK (cfn p) X k := ⟨fun k => refK (cfn p) X k, fun _ => rfl⟩
  have y0 : Y 0 = X := hY 0
  have yS : ∀ k, Y (k + 1) = if cntF (ctr (trimP p)) (Y k).1 (mid2 (Y k)) = 1 then ((Y k).1, mid2 (Y k)) else (mid2 (Y k), (Y k).2) := fun k => by rw [hY, hY]; rfl
  have yO : ∀ k, k ≤ K → okI 10000 (Y k) ∧ okQ 10000 (mid2 (Y k)) := fun k hk => by
    rw [hY]
    obtain ⟨e1, e2⟩ := refK_dy (C := cfn p) D0 d1 d2 k
    exact ⟨⟨(e1.ok D0 hD hM).mono (by omega), (e2.ok D0 hD hM).mono (by omega)⟩, ((e1.mid D0 e2).ok D0 hD hM).mono (by omega)⟩
  have yL : ∀ k, (Y k).1 ≤ (Y k).2 := fun k => by rw [hY]; exact (refK_in _ a k).2.1
  have yW : ∀ k, (Y k).2 - (Y k).1 = hw (X.2 - X.1) k := fun k => by rw [hY, refK_w]
  have wO : ∀ k, k ≤ K → okQ 30000 (hw (X.2 - X.1) k) := fun k hk => by
    rw [← yW k]
    exact ((yO k hk).1.2.sub (yO k hk).1.1).mono (by decide)
  obtain ⟨m, hm⟩ : ∃ m : Nat → Rat, ∀ i, m i = hw 1 i := ⟨hw 1, fun _ => rfl⟩
  have m0 : m 0 = ((1 : Int) : Rat) := by rw [hm]; rfl
  have mS : ∀ i, m (i + 1) = m i / ((2 : Int) : Rat) := fun i => by rw [hm, hm]; rfl
  have mO : ∀ i, i ≤ n → okQ 1000 (m i) := fun i hi => by
    rw [hm]
    exact (hw_ok (n := 2) (by exact ⟨by show (limbs 1).length < 2; rw [limbs_one]; decide, by show (limbs 1).length < 2; rw [limbs_one]; decide⟩) i).mono (by omega)
  rw [← hm] at k1
  have k2' : ∀ j, j < K → ¬ hw (X.2 - X.1) j ≤ m n := fun j hj => by rw [hm]; exact k2 j hj
  rw [← hY]
  clear hY hm k2 hh0 hb he d1 d2
  generalize hw (X.2 - X.1) = W at *
  generalize ctr (trimP p) = C at *
  by_cases b : X.1 = X.2
  · have c0 : cmpQ X.1 X.2 = 0 := by unfold cmpQ; rw [b, if_neg Rat.lt_irrefl, if_neg Rat.lt_irrefl]
    rw [c0] at cm
    rw [if_pos b] at hh
    rw [z.2 (of_decide_eq_true hh)] at sg
    generalize trimP p = q at *
    clear hp oX h0 hD hM D0 hh oe z ct
    refine ret_of_awp tab Tryz.func51 rfl rfl (Nat.le_of_ble_eq_true rfl) (fun w0 F0 => ?_)
    repeat' (first
      | (show awpL _ _ _ _ _; first | refine goL ?_ | refine cl 43 tt rfl rfl rfl (hr := dg) (k := ?_) | refine cl 97 tt rfl rfl rfl (hr := vd) (k := ?_) | refine cl 98 tt rfl rfl rfl (hr := hu) (k := ?_) | refine cl 68 tt rfl rfl rfl (hr := nc) (k := ?_) | refine cl 95 tt rfl rfl rfl (hr := cm) (k := ?_) | refine cl 36 tt rfl rfl rfl (hr := ev) (k := ?_) | refine cl 99 tt rfl rfl rfl (hr := sg) (k := ?_) | refine cl 100 tt rfl rfl rfl (hr := f1) (k := ?_) | (refine gdLG ?_ ?_ <;> intro _ <;> try (exfalso; omega)))
      | (show awp _ _ _ _; first | refine goA ?_ | refine rg 4 9 ?_ | refine rg 14 7 ?_ | refine rg 16 3 ?_ | (refine cdG ?_ ?_ <;> intro _ <;> try (exfalso; omega)))
      | (show andThen _ _ _ _; refine goN ?_)
      | (show inBlock _ _ _ _; refine goB ?_)
      | (show awpR _ _ _ _ _ _ _; first | refine goR ?_ | refine clR 43 tt rfl rfl rfl (hr := dg) (k := ?_) | refine clR 97 tt rfl rfl rfl (hr := vd) (k := ?_) | refine clR 98 tt rfl rfl rfl (hr := hu) (k := ?_) | refine clR 68 tt rfl rfl rfl (hr := nc) (k := ?_) | refine clR 95 tt rfl rfl rfl (hr := cm) (k := ?_) | refine clR 36 tt rfl rfl rfl (hr := ev) (k := ?_) | refine clR 99 tt rfl rfl rfl (hr := sg) (k := ?_) | refine clR 100 tt rfl rfl rfl (hr := f1) (k := ?_) | (refine gdRG ?_ ?_ <;> intro _ <;> try (exfalso; omega)))
      | (show retPost _ _ _ _ _; refine finG ?_))
    refine awp_conv (Conv.box 6 (cs := [.bool false, .nils, .nils, .bool false, .nils, .nils]) (iC r0 r0) rfl leL) ?_
    refine awp_loop1 (fun (i : Nat) => ([(2, .d (.int .i64 n)), (4, .ptr 4 0), (6, .ptr 6 0), (7, .d (.int .i64 0)), (8, .d (qssD C)), (10, .ptr 10 0), (70, .d (.int .i64 n)), (71, .d (.int .i64 i))], [(4, .box 55 ((iC (rq X.1) (rq X.2)).map V.d)), (6, .box 55 ((iC r0 r0).map V.d)), (10, .box 29 ((rC (rq (m i))).map V.d))])) (fun i => i ≤ n) (fun i => n - i) 0 (by omega) ⟨rfl, rfl, rfl, rfl, rfl, rfl, rfl, rfl, rfl⟩ ⟨rfl, rfl, (by rw [m0]; rfl), trivial⟩ (fun i hi => ?_)
    by_cases h3 : i < n
    · have dv := rational_DivQ (m i) ((2 : Int) : Rat) ((mO i hi).mono (by decide)) ((ok_intW (by decide)).mono (by decide))
      rw [if_neg (by decide +kernel), ← mS i] at dv
      clear yO yL yW wO mO k2'
      repeat' (first
        | (show awpL _ _ _ _ _; first | refine goL ?_ | refine cl 100 tt rfl rfl rfl (hr := f2) (k := ?_) | refine cl 79 tt rfl rfl rfl (hr := dv) (k := ?_) | (refine gdLG ?_ ?_ <;> intro _ <;> try (exfalso; omega)))
        | (show awp _ _ _ _; first | refine goA ?_ | refine rg 4 9 ?_ | refine rg 14 7 ?_ | refine rg 16 3 ?_ | (refine cdG ?_ ?_ <;> intro _ <;> try (exfalso; omega)))
        | (show andThen _ _ _ _; refine goN ?_)
        | (show inBlock _ _ _ _; refine goB ?_)
        | (show awpR _ _ _ _ _ _ _; first | refine goR ?_ | refine clR 100 tt rfl rfl rfl (hr := f2) (k := ?_) | refine clR 79 tt rfl rfl rfl (hr := dv) (k := ?_) | (refine gdRG ?_ ?_ <;> intro _ <;> try (exfalso; omega)))
        | (show retPost _ _ _ _ _; refine finG ?_))
      exact ⟨i + 1, by omega, by omega, ⟨rfl, rfl, rfl, rfl, rfl, rfl, rfl, iv (by omega), rfl⟩, rfl, rfl, rfl, trivial⟩
    · have e : i = n := by omega
      subst e
      have omn := mO i (Nat.le_refl _)
      repeat' (first
        | (show awpL _ _ _ _ _; first | refine goL ?_ | (refine gdLG ?_ ?_ <;> intro _ <;> try (exfalso; omega)))
        | (show awp _ _ _ _; first | refine goA ?_ | refine rg 4 9 ?_ | refine rg 14 7 ?_ | refine rg 16 3 ?_ | (refine cdG ?_ ?_ <;> intro _ <;> try (exfalso; omega)))
        | (show andThen _ _ _ _; refine goN ?_)
        | (show inBlock _ _ _ _; refine goB ?_)
        | (show awpR _ _ _ _ _ _ _; first | refine goR ?_ | (refine gdRG ?_ ?_ <;> intro _ <;> try (exfalso; omega)))
        | (show retPost _ _ _ _ _; refine finG ?_))
      refine awp_loop1 (fun (k : Nat) => ([(4, .ptr 4 0), (6, .ptr 6 0), (7, .d (.int .i64 0)), (8, .d (qssD C)), (10, .ptr 10 0)], [(4, .box 55 ((iC (rq (Y k).1) (rq (Y k).2)).map V.d)), (6, .box 55 ((iC r0 r0).map V.d)), (10, .box 29 ((rC (rq (m i))).map V.d))])) (fun k => k ≤ K) (fun k => K - k) 0 (by omega) ⟨rfl, rfl, rfl, rfl, rfl, rfl⟩ ⟨(by rw [y0]; rfl), rfl, rfl, trivial⟩ (fun k hk => ?_)
      have wd := interval_WidthI (Y k) ⟨(yO k hk).1.1.mono (by decide), (yO k hk).1.2.mono (by decide)⟩ (yL k)
      rw [yW k] at wd
      have cp := rational_CompareQ (W k) (m i) ((wO k hk).mono (by decide)) (omn.mono (by decide))
      by_cases h4 : k < K
      · have hlt := k2' k h4
        have c1 : cmpQ (W k) (m i) = 1 := by unfold cmpQ; rw [if_neg (by grind), if_pos (by grind)]
        rw [c1] at cp
        have md := interval_MidI (Y k) ⟨(yO k hk).1.1.mono (by decide), (yO k hk).1.2.mono (by decide)⟩ (yL k)
        have cn := ctA (Y k).1 (mid2 (Y k)) ((yO k hk).1.1.mono (by decide)) ((yO k hk).2.mono (by decide))
        have ys := yS k
        generalize cntF C (Y k).1 (mid2 (Y k)) = c at *
        clear yO yL yW wO mO k2' yS ctA
        by_cases c9 : c = 1
        · subst c9
          rw [if_pos rfl] at ys
          repeat' (first
            | (show awpL _ _ _ _ _; first | refine goL ?_ | refine cl 101 tt rfl rfl rfl (hr := wd) (k := ?_) | refine cl 95 tt rfl rfl rfl (hr := cp) (k := ?_) | refine cl 102 tt rfl rfl rfl (hr := md) (k := ?_) | refine cl 69 tt rfl rfl rfl (hr := cn) (k := ?_) | (refine gdLG ?_ ?_ <;> intro _ <;> try (exfalso; omega)))
            | (show awp _ _ _ _; first | refine goA ?_ | refine rg 4 9 ?_ | refine rg 14 7 ?_ | refine rg 16 3 ?_ | (refine cdG ?_ ?_ <;> intro _ <;> try (exfalso; omega)))
            | (show andThen _ _ _ _; refine goN ?_)
            | (show inBlock _ _ _ _; refine goB ?_)
            | (show awpR _ _ _ _ _ _ _; first | refine goR ?_ | refine clR 101 tt rfl rfl rfl (hr := wd) (k := ?_) | refine clR 95 tt rfl rfl rfl (hr := cp) (k := ?_) | refine clR 102 tt rfl rfl rfl (hr := md) (k := ?_) | refine clR 69 tt rfl rfl rfl (hr := cn) (k := ?_) | (refine gdRG ?_ ?_ <;> intro _ <;> try (exfalso; omega)))
            | (show retPost _ _ _ _ _; refine finG ?_))
          exact ⟨k + 1, by omega, by omega, ⟨rfl, rfl, rfl, rfl, rfl, rfl⟩, (by rw [ys]; rfl), rfl, rfl, trivial⟩
        · rw [if_neg c9] at ys
          repeat' (first
            | (show awpL _ _ _ _ _; first | refine goL ?_ | refine cl 101 tt rfl rfl rfl (hr := wd) (k := ?_) | refine cl 95 tt rfl rfl rfl (hr := cp) (k := ?_) | refine cl 102 tt rfl rfl rfl (hr := md) (k := ?_) | refine cl 69 tt rfl rfl rfl (hr := cn) (k := ?_) | (refine gdLG ?_ ?_ <;> intro _ <;> try (exfalso; omega)))
            | (show awp _ _ _ _; first | refine goA ?_ | refine rg 4 9 ?_ | refine rg 14 7 ?_ | refine rg 16 3 ?_ | (refine cdG ?_ ?_ <;> intro _ <;> try (exfalso; omega)))
            | (show andThen _ _ _ _; refine goN ?_)
            | (show inBlock _ _ _ _; refine goB ?_)
            | (show awpR _ _ _ _ _ _ _; first | refine goR ?_ | refine clR 101 tt rfl rfl rfl (hr := wd) (k := ?_) | refine clR 95 tt rfl rfl rfl (hr := cp) (k := ?_) | refine clR 102 tt rfl rfl rfl (hr := md) (k := ?_) | refine clR 69 tt rfl rfl rfl (hr := cn) (k := ?_) | (refine gdRG ?_ ?_ <;> intro _ <;> try (exfalso; omega)))
            | (show retPost _ _ _ _ _; refine finG ?_))
          exact ⟨k + 1, by omega, by omega, ⟨rfl, rfl, rfl, rfl, rfl, rfl⟩, (by rw [ys]; rfl), rfl, rfl, trivial⟩
      · have e : k = K := by omega
        subst e
        have c1 : ¬ 0 < cmpQ (W k) (m i) := by unfold cmpQ; rw [if_neg (show ¬ m i < W k by grind)]; split <;> decide
        generalize cmpQ (W k) (m i) = u at *
        clear yO yL yW wO mO k2' yS ctA
        repeat' (first
          | (show awpL _ _ _ _ _; first | refine goL ?_ | refine cl 101 tt rfl rfl rfl (hr := wd) (k := ?_) | refine cl 95 tt rfl rfl rfl (hr := cp) (k := ?_) | (refine gdLG ?_ ?_ <;> intro _ <;> try (exfalso; omega)))
          | (show awp _ _ _ _; first | refine goA ?_ | refine rg 4 9 ?_ | refine rg 14 7 ?_ | refine rg 16 3 ?_ | (refine cdG ?_ ?_ <;> intro _ <;> try (exfalso; omega)))
          | (show andThen _ _ _ _; refine goN ?_)
          | (show inBlock _ _ _ _; refine goB ?_)
          | (show awpR _ _ _ _ _ _ _; first | refine goR ?_ | refine clR 101 tt rfl rfl rfl (hr := wd) (k := ?_) | refine clR 95 tt rfl rfl rfl (hr := cp) (k := ?_) | (refine gdRG ?_ ?_ <;> intro _ <;> try (exfalso; omega)))
          | (show retPost _ _ _ _ _; refine finG ?_))
        rfl
  · have c0 : cmpQ X.1 X.2 = -1 := by unfold cmpQ; rw [if_pos (by grind)]
    rw [c0] at cm
    rw [if_neg b] at hh
    rw [of_decide_eq_true hh] at ct
    generalize trimP p = q at *
    clear hp oX h0 hD hM D0 hh oe z ev sg
    refine ret_of_awp tab Tryz.func51 rfl rfl (Nat.le_of_ble_eq_true rfl) (fun w0 F0 => ?_)
    repeat' (first
      | (show awpL _ _ _ _ _; first | refine goL ?_ | refine cl 43 tt rfl rfl rfl (hr := dg) (k := ?_) | refine cl 97 tt rfl rfl rfl (hr := vd) (k := ?_) | refine cl 98 tt rfl rfl rfl (hr := hu) (k := ?_) | refine cl 68 tt rfl rfl rfl (hr := nc) (k := ?_) | refine cl 95 tt rfl rfl rfl (hr := cm) (k := ?_) | refine cl 69 tt rfl rfl rfl (hr := ct) (k := ?_) | refine cl 100 tt rfl rfl rfl (hr := f1) (k := ?_) | (refine gdLG ?_ ?_ <;> intro _ <;> try (exfalso; omega)))
      | (show awp _ _ _ _; first | refine goA ?_ | refine rg 4 9 ?_ | refine rg 14 7 ?_ | refine rg 16 3 ?_ | (refine cdG ?_ ?_ <;> intro _ <;> try (exfalso; omega)))
      | (show andThen _ _ _ _; refine goN ?_)
      | (show inBlock _ _ _ _; refine goB ?_)
      | (show awpR _ _ _ _ _ _ _; first | refine goR ?_ | refine clR 43 tt rfl rfl rfl (hr := dg) (k := ?_) | refine clR 97 tt rfl rfl rfl (hr := vd) (k := ?_) | refine clR 98 tt rfl rfl rfl (hr := hu) (k := ?_) | refine clR 68 tt rfl rfl rfl (hr := nc) (k := ?_) | refine clR 95 tt rfl rfl rfl (hr := cm) (k := ?_) | refine clR 69 tt rfl rfl rfl (hr := ct) (k := ?_) | refine clR 100 tt rfl rfl rfl (hr := f1) (k := ?_) | (refine gdRG ?_ ?_ <;> intro _ <;> try (exfalso; omega)))
      | (show retPost _ _ _ _ _; refine finG ?_))
    refine awp_conv (Conv.box 6 (cs := [.bool false, .nils, .nils, .bool false, .nils, .nils]) (iC r0 r0) rfl leL) ?_
    refine awp_loop1 (fun (i : Nat) => ([(2, .d (.int .i64 n)), (4, .ptr 4 0), (6, .ptr 6 0), (7, .d (.int .i64 0)), (8, .d (qssD C)), (10, .ptr 10 0), (70, .d (.int .i64 n)), (71, .d (.int .i64 i))], [(4, .box 55 ((iC (rq X.1) (rq X.2)).map V.d)), (6, .box 55 ((iC r0 r0).map V.d)), (10, .box 29 ((rC (rq (m i))).map V.d))])) (fun i => i ≤ n) (fun i => n - i) 0 (by omega) ⟨rfl, rfl, rfl, rfl, rfl, rfl, rfl, rfl, rfl⟩ ⟨rfl, rfl, (by rw [m0]; rfl), trivial⟩ (fun i hi => ?_)
    by_cases h3 : i < n
    · have dv := rational_DivQ (m i) ((2 : Int) : Rat) ((mO i hi).mono (by decide)) ((ok_intW (by decide)).mono (by decide))
      rw [if_neg (by decide +kernel), ← mS i] at dv
      clear yO yL yW wO mO k2'
      repeat' (first
        | (show awpL _ _ _ _ _; first | refine goL ?_ | refine cl 100 tt rfl rfl rfl (hr := f2) (k := ?_) | refine cl 79 tt rfl rfl rfl (hr := dv) (k := ?_) | (refine gdLG ?_ ?_ <;> intro _ <;> try (exfalso; omega)))
        | (show awp _ _ _ _; first | refine goA ?_ | refine rg 4 9 ?_ | refine rg 14 7 ?_ | refine rg 16 3 ?_ | (refine cdG ?_ ?_ <;> intro _ <;> try (exfalso; omega)))
        | (show andThen _ _ _ _; refine goN ?_)
        | (show inBlock _ _ _ _; refine goB ?_)
        | (show awpR _ _ _ _ _ _ _; first | refine goR ?_ | refine clR 100 tt rfl rfl rfl (hr := f2) (k := ?_) | refine clR 79 tt rfl rfl rfl (hr := dv) (k := ?_) | (refine gdRG ?_ ?_ <;> intro _ <;> try (exfalso; omega)))
        | (show retPost _ _ _ _ _; refine finG ?_))
      exact ⟨i + 1, by omega, by omega, ⟨rfl, rfl, rfl, rfl, rfl, rfl, rfl, iv (by omega), rfl⟩, rfl, rfl, rfl, trivial⟩
    · have e : i = n := by omega
      subst e
      have omn := mO i (Nat.le_refl _)
      repeat' (first
        | (show awpL _ _ _ _ _; first | refine goL ?_ | (refine gdLG ?_ ?_ <;> intro _ <;> try (exfalso; omega)))
        | (show awp _ _ _ _; first | refine goA ?_ | refine rg 4 9 ?_ | refine rg 14 7 ?_ | refine rg 16 3 ?_ | (refine cdG ?_ ?_ <;> intro _ <;> try (exfalso; omega)))
        | (show andThen _ _ _ _; refine goN ?_)
        | (show inBlock _ _ _ _; refine goB ?_)
        | (show awpR _ _ _ _ _ _ _; first | refine goR ?_ | (refine gdRG ?_ ?_ <;> intro _ <;> try (exfalso; omega)))
        | (show retPost _ _ _ _ _; refine finG ?_))
      refine awp_loop1 (fun (k : Nat) => ([(4, .ptr 4 0), (6, .ptr 6 0), (7, .d (.int .i64 0)), (8, .d (qssD C)), (10, .ptr 10 0)], [(4, .box 55 ((iC (rq (Y k).1) (rq (Y k).2)).map V.d)), (6, .box 55 ((iC r0 r0).map V.d)), (10, .box 29 ((rC (rq (m i))).map V.d))])) (fun k => k ≤ K) (fun k => K - k) 0 (by omega) ⟨rfl, rfl, rfl, rfl, rfl, rfl⟩ ⟨(by rw [y0]; rfl), rfl, rfl, trivial⟩ (fun k hk => ?_)
      have wd := interval_WidthI (Y k) ⟨(yO k hk).1.1.mono (by decide), (yO k hk).1.2.mono (by decide)⟩ (yL k)
      rw [yW k] at wd
      have cp := rational_CompareQ (W k) (m i) ((wO k hk).mono (by decide)) (omn.mono (by decide))
      by_cases h4 : k < K
      · have hlt := k2' k h4
        have c1 : cmpQ (W k) (m i) = 1 := by unfold cmpQ; rw [if_neg (by grind), if_pos (by grind)]
        rw [c1] at cp
        have md := interval_MidI (Y k) ⟨(yO k hk).1.1.mono (by decide), (yO k hk).1.2.mono (by decide)⟩ (yL k)
        have cn := ctA (Y k).1 (mid2 (Y k)) ((yO k hk).1.1.mono (by decide)) ((yO k hk).2.mono (by decide))
        have ys := yS k
        generalize cntF C (Y k).1 (mid2 (Y k)) = c at *
        clear yO yL yW wO mO k2' yS ctA
        by_cases c9 : c = 1
        · subst c9
          rw [if_pos rfl] at ys
          repeat' (first
            | (show awpL _ _ _ _ _; first | refine goL ?_ | refine cl 101 tt rfl rfl rfl (hr := wd) (k := ?_) | refine cl 95 tt rfl rfl rfl (hr := cp) (k := ?_) | refine cl 102 tt rfl rfl rfl (hr := md) (k := ?_) | refine cl 69 tt rfl rfl rfl (hr := cn) (k := ?_) | (refine gdLG ?_ ?_ <;> intro _ <;> try (exfalso; omega)))
            | (show awp _ _ _ _; first | refine goA ?_ | refine rg 4 9 ?_ | refine rg 14 7 ?_ | refine rg 16 3 ?_ | (refine cdG ?_ ?_ <;> intro _ <;> try (exfalso; omega)))
            | (show andThen _ _ _ _; refine goN ?_)
            | (show inBlock _ _ _ _; refine goB ?_)
            | (show awpR _ _ _ _ _ _ _; first | refine goR ?_ | refine clR 101 tt rfl rfl rfl (hr := wd) (k := ?_) | refine clR 95 tt rfl rfl rfl (hr := cp) (k := ?_) | refine clR 102 tt rfl rfl rfl (hr := md) (k := ?_) | refine clR 69 tt rfl rfl rfl (hr := cn) (k := ?_) | (refine gdRG ?_ ?_ <;> intro _ <;> try (exfalso; omega)))
            | (show retPost _ _ _ _ _; refine finG ?_))
          exact ⟨k + 1, by omega, by omega, ⟨rfl, rfl, rfl, rfl, rfl, rfl⟩, (by rw [ys]; rfl), rfl, rfl, trivial⟩
        · rw [if_neg c9] at ys
          repeat' (first
            | (show awpL _ _ _ _ _; first | refine goL ?_ | refine cl 101 tt rfl rfl rfl (hr := wd) (k := ?_) | refine cl 95 tt rfl rfl rfl (hr := cp) (k := ?_) | refine cl 102 tt rfl rfl rfl (hr := md) (k := ?_) | refine cl 69 tt rfl rfl rfl (hr := cn) (k := ?_) | (refine gdLG ?_ ?_ <;> intro _ <;> try (exfalso; omega)))
            | (show awp _ _ _ _; first | refine goA ?_ | refine rg 4 9 ?_ | refine rg 14 7 ?_ | refine rg 16 3 ?_ | (refine cdG ?_ ?_ <;> intro _ <;> try (exfalso; omega)))
            | (show andThen _ _ _ _; refine goN ?_)
            | (show inBlock _ _ _ _; refine goB ?_)
            | (show awpR _ _ _ _ _ _ _; first | refine goR ?_ | refine clR 101 tt rfl rfl rfl (hr := wd) (k := ?_) | refine clR 95 tt rfl rfl rfl (hr := cp) (k := ?_) | refine clR 102 tt rfl rfl rfl (hr := md) (k := ?_) | refine clR 69 tt rfl rfl rfl (hr := cn) (k := ?_) | (refine gdRG ?_ ?_ <;> intro _ <;> try (exfalso; omega)))
            | (show retPost _ _ _ _ _; refine finG ?_))
          exact ⟨k + 1, by omega, by omega, ⟨rfl, rfl, rfl, rfl, rfl, rfl⟩, (by rw [ys]; rfl), rfl, rfl, trivial⟩
      · have e : k = K := by omega
        subst e
        have c1 : ¬ 0 < cmpQ (W k) (m i) := by unfold cmpQ; rw [if_neg (show ¬ m i < W k by grind)]; split <;> decide
        generalize cmpQ (W k) (m i) = u at *
        clear yO yL yW wO mO k2' yS ctA
        repeat' (first
          | (show awpL _ _ _ _ _; first | refine goL ?_ | refine cl 101 tt rfl rfl rfl (hr := wd) (k := ?_) | refine cl 95 tt rfl rfl rfl (hr := cp) (k := ?_) | (refine gdLG ?_ ?_ <;> intro _ <;> try (exfalso; omega)))
          | (show awp _ _ _ _; first | refine goA ?_ | refine rg 4 9 ?_ | refine rg 14 7 ?_ | refine rg 16 3 ?_ | (refine cdG ?_ ?_ <;> intro _ <;> try (exfalso; omega)))
          | (show andThen _ _ _ _; refine goN ?_)
          | (show inBlock _ _ _ _; refine goB ?_)
          | (show awpR _ _ _ _ _ _ _; first | refine goR ?_ | refine clR 101 tt rfl rfl rfl (hr := wd) (k := ?_) | refine clR 95 tt rfl rfl rfl (hr := cp) (k := ?_) | (refine gdRG ?_ ?_ <;> intro _ <;> try (exfalso; omega)))
          | (show retPost _ _ _ _ _; refine finG ?_))
        rfl
end Go.Proofs.YtlphlodailailaaGreat
