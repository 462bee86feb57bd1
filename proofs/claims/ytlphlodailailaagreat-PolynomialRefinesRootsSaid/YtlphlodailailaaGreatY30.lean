/-
  A statement of the seat: what its contract is, and the claim. Conditions: as each says.
-/
import Derived.Test.YtlphlodailailaaGreatY29
import Derived.Test.YtlphlodailailaaGreatA09
set_option linter.unusedVariables false
set_option linter.unusedSimpArgs false
set_option maxHeartbeats 8000000
namespace Go.Proofs.YtlphlodailailaaGreat
open Go.Vw
attribute [local irreducible] awp awpL awpR

theorem polynomial_DegreeQ (p : List Rat) (hp : p.length ≤ 400) (kp : ∀ x ∈ p, okQ 1000000 x) : Ret Tryz.prog 43 [qsD p] (· = .int .i64 (((trimP p).length : Int) - 1)) := by
  have h := polynomial_Degree (p.map rq) (by rw [List.length_map]; omega) (rqs_ok fun x hx => (kp x hx).mono (by decide))
  rw [map_rv_rqL] at h
  exact h.args (leQRs p (LeT.refl _))
theorem newCounterV {p : List Rat} (hp : PolOk p) (p0 : trimP p ≠ []) : Ret Tryz.prog 68 [qsD p] (· = qssD (ctr (trimP p))) := by
  have h := polynomial_newCounter (p.map rq) (by rw [List.length_map]; have := hp.len; omega) (rqs_ok fun x hx => (hp.ok x hx).mono (by decide)) (by rw [map_rv_rqL]; exact (hp.ctr p0).1)
  rw [map_rv_rqL] at h
  exact h.args (leQRs p (LeT.refl _))
theorem countV {p : List Rat} (hp : PolOk p) (p0 : trimP p ≠ []) (x y : Rat) (ox : okQ 150000 x) (oy : okQ 150000 y) : Ret Tryz.prog 69 [qssD (ctr (trimP p)), qD x, qD y] (· = .int .i64 (cntF (ctr (trimP p)) x y)) := by
  obtain ⟨hk, _⟩ := hp.ctr p0
  obtain ⟨M, f⟩ := hk.fit2
  have hfit := f.chain chOk_small ((ctrQ (trimP p)).length + 1)
  have cln := chain_len smallP ((ctrQ (trimP p)).length + 1) (ctrQ (trimP p)) (derP (ctrQ (trimP p)))
  have ql := hk.ql
  have h := counter_count (ctr (trimP p)) (rq x) (rq y) (by unfold ctr; omega) (fun g hg => by
    obtain ⟨g1, M', g2⟩ := hfit g hg
    refine ⟨?_, M', g2⟩
    have b := g2.2
    by_cases g0 : g.length ≤ 13
    · exact g0
    · exfalso
      have b3 := Nat.pow_le_pow_right (show 0 < 3 by decide) (show 14 ≤ g.length by omega)
      have b4 := Nat.mul_le_mul_right (3 ^ g.length) (show 1 ≤ M' + 1 by omega)
      have b5 : (3 : Nat) ^ 14 = 4782969 := by decide
      unfold Bud at b
      omega) (ok_rq (ox.mono (by decide))) (ok_rq (oy.mono (by decide)))
  rwa [rv_rq, rv_rq] at h
theorem interval_HullS (X : I2) (oX : okI 150000 X) (h : X.1 ≤ X.2) : Ret Tryz.prog 98 [iQ X, iQ X] (· = iQ X) := by
  have k := interval_Hull (rq X.1) (rq X.2) (rq X.1) (rq X.2) (ok_rq (oX.1.mono (by decide))) (ok_rq (oX.2.mono (by decide))) (ok_rq (oX.1.mono (by decide))) (ok_rq (oX.2.mono (by decide)))
  rwa [rv_rq, rv_rq, hullI_same h] at k
theorem polynomial_RefineE {p : List Rat} (hp : PolOk p) (X : I2) (oX : okI 150000 X) (bits : Int) (he : refErr p X bits ≠ 0) : Ret Tryz.prog 51 [qsD p, iQ X, .int .i64 bits] (· = .tup [iQ (0, 0), .int .i64 (refErr p X bits)]) := by
  have z0 : rq 0 = r0 := rq_zero'
  have dg := polynomial_DegreeQ p (by have := hp.len; omega) (fun x hx => (hp.ok x hx).mono (by decide))
  have vd := interval_ValidI X oX
  show Ret Tryz.prog 51 [qsD p, iQ X, .int .i64 bits] (· = .tup [iD (rq 0) (rq 0), .int .i64 (refErr p X bits)])
  rw [z0]
  by_cases h0 : trimP p = []
  · have e : refErr p X bits = 4 := by unfold refErr; rw [if_pos (.inl h0)]
    rw [e]
    have l0 : (trimP p).length = 0 := by rw [h0]; rfl
    generalize trimP p = q at *
    clear hp oX he e h0 vd
    refine ret_of_awp tab Tryz.func51 rfl rfl (Nat.le_of_ble_eq_true rfl) (fun w0 F0 => ?_)
    repeat' (first
      | (show awpL _ _ _ _ _; first | refine goL ?_ | refine cl 43 tt rfl rfl rfl (hr := dg) (k := ?_) | (refine gdLG ?_ ?_ <;> intro _ <;> try (exfalso; omega)))
      | (show awp _ _ _ _; first | refine goA ?_ | refine rg 4 9 ?_ | refine rg 14 7 ?_ | refine rg 16 3 ?_ | (refine cdG ?_ ?_ <;> intro _ <;> try (exfalso; omega)))
      | (show andThen _ _ _ _; refine goN ?_)
      | (show inBlock _ _ _ _; refine goB ?_)
      | (show awpR _ _ _ _ _ _ _; first | refine goR ?_ | refine clR 43 tt rfl rfl rfl (hr := dg) (k := ?_) | (refine gdRG ?_ ?_ <;> intro _ <;> try (exfalso; omega)))
      | (show retPost _ _ _ _ _; refine finTG ?_))
    exact leT
  · have hl := Nat.le_trans (trim_len p) hp.len
    have l0 := ne_len h0
    by_cases a : X.1 ≤ X.2
    · rw [decide_eq_true a] at vd
      have hu := interval_HullS X oX a
      have nc := newCounterV hp h0
      have cm := rational_CompareQ X.1 X.2 (oX.1.mono (by decide)) (oX.2.mono (by decide))
      have ev := polynomial_EvalV hp X.1 oX.1
      have oe := (ref05_EvalV hp X.1 oX.1).2
      have sg := rational_SignQ (evalP p X.1) (oe.mono (by decide))
      have z := sign_zero_iff (q := evalP p X.1)
      have ct := countV hp h0 X.1 X.2 oX.1 oX.2
      have hh : holdsB p X = if X.1 = X.2 then decide (evalP p X.1 = 0) else decide (cntF (ctr (trimP p)) X.1 X.2 = 1) := by
        unfold holdsB cntV
        rw [decide_eq_true a, Bool.true_and, if_neg h0]
      unfold refErr at he ⊢
      rw [hh] at he ⊢
      generalize cntF (ctr (trimP p)) X.1 X.2 = c at *
      generalize evalP p X.1 = v at *
      generalize ctr (trimP p) = C at *
      generalize v.num.sign = w at *
      by_cases b : X.1 = X.2
      · have c0 : cmpQ X.1 X.2 = 0 := by unfold cmpQ; rw [b, if_neg Rat.lt_irrefl, if_neg Rat.lt_irrefl]
        rw [c0] at cm
        rw [if_pos b] at he ⊢
        by_cases d : v = 0
        · have hb : bits < 0 ∨ 128 < bits := Classical.byContradiction fun hn => he (by rw [if_neg (by simp [h0, d]), if_neg hn])
          have e : (if trimP p = [] ∨ decide (v = 0) = false then (4 : Int) else if bits < 0 ∨ 128 < bits then 1 else 0) = 1 := by rw [if_neg (by simp [h0, d]), if_pos hb]
          rw [e]
          have w0 : w = 0 := z.2 d
          subst w0
          generalize trimP p = q at *
          clear hp oX he e hh oe z ct d h0
          rcases hb with hb | hb
          · refine ret_of_awp tab Tryz.func51 rfl rfl (Nat.le_of_ble_eq_true rfl) (fun w0 F0 => ?_)
            repeat' (first
              | (show awpL _ _ _ _ _; first | refine goL ?_ | refine cl 43 tt rfl rfl rfl (hr := dg) (k := ?_) | refine cl 97 tt rfl rfl rfl (hr := vd) (k := ?_) | refine cl 98 tt rfl rfl rfl (hr := hu) (k := ?_) | refine cl 68 tt rfl rfl rfl (hr := nc) (k := ?_) | refine cl 95 tt rfl rfl rfl (hr := cm) (k := ?_) | refine cl 36 tt rfl rfl rfl (hr := ev) (k := ?_) | refine cl 99 tt rfl rfl rfl (hr := sg) (k := ?_) | (refine gdLG ?_ ?_ <;> intro _ <;> try (exfalso; omega)))
              | (show awp _ _ _ _; first | refine goA ?_ | refine rg 4 9 ?_ | refine rg 14 7 ?_ | refine rg 16 3 ?_ | (refine cdG ?_ ?_ <;> intro _ <;> try (exfalso; omega)))
              | (show andThen _ _ _ _; refine goN ?_)
              | (show inBlock _ _ _ _; refine goB ?_)
              | (show awpR _ _ _ _ _ _ _; first | refine goR ?_ | refine clR 43 tt rfl rfl rfl (hr := dg) (k := ?_) | refine clR 97 tt rfl rfl rfl (hr := vd) (k := ?_) | refine clR 98 tt rfl rfl rfl (hr := hu) (k := ?_) | refine clR 68 tt rfl rfl rfl (hr := nc) (k := ?_) | refine clR 95 tt rfl rfl rfl (hr := cm) (k := ?_) | refine clR 36 tt rfl rfl rfl (hr := ev) (k := ?_) | refine clR 99 tt rfl rfl rfl (hr := sg) (k := ?_) | (refine gdRG ?_ ?_ <;> intro _ <;> try (exfalso; omega)))
              | (show retPost _ _ _ _ _; refine finTG ?_))
            exact leT
          · refine ret_of_awp tab Tryz.func51 rfl rfl (Nat.le_of_ble_eq_true rfl) (fun w0 F0 => ?_)
            repeat' (first
              | (show awpL _ _ _ _ _; first | refine goL ?_ | refine cl 43 tt rfl rfl rfl (hr := dg) (k := ?_) | refine cl 97 tt rfl rfl rfl (hr := vd) (k := ?_) | refine cl 98 tt rfl rfl rfl (hr := hu) (k := ?_) | refine cl 68 tt rfl rfl rfl (hr := nc) (k := ?_) | refine cl 95 tt rfl rfl rfl (hr := cm) (k := ?_) | refine cl 36 tt rfl rfl rfl (hr := ev) (k := ?_) | refine cl 99 tt rfl rfl rfl (hr := sg) (k := ?_) | (refine gdLG ?_ ?_ <;> intro _ <;> try (exfalso; omega)))
              | (show awp _ _ _ _; first | refine goA ?_ | refine rg 4 9 ?_ | refine rg 14 7 ?_ | refine rg 16 3 ?_ | (refine cdG ?_ ?_ <;> intro _ <;> try (exfalso; omega)))
              | (show andThen _ _ _ _; refine goN ?_)
              | (show inBlock _ _ _ _; refine goB ?_)
              | (show awpR _ _ _ _ _ _ _; first | refine goR ?_ | refine clR 43 tt rfl rfl rfl (hr := dg) (k := ?_) | refine clR 97 tt rfl rfl rfl (hr := vd) (k := ?_) | refine clR 98 tt rfl rfl rfl (hr := hu) (k := ?_) | refine clR 68 tt rfl rfl rfl (hr := nc) (k := ?_) | refine clR 95 tt rfl rfl rfl (hr := cm) (k := ?_) | refine clR 36 tt rfl rfl rfl (hr := ev) (k := ?_) | refine clR 99 tt rfl rfl rfl (hr := sg) (k := ?_) | (refine gdRG ?_ ?_ <;> intro _ <;> try (exfalso; omega)))
              | (show retPost _ _ _ _ _; refine finTG ?_))
            exact leT
        · have e : (if trimP p = [] ∨ decide (v = 0) = false then (4 : Int) else if bits < 0 ∨ 128 < bits then 1 else 0) = 4 := by rw [if_pos (.inr (decide_eq_false d))]
          rw [e]
          have w0 : w ≠ 0 := fun e => d (z.1 e)
          generalize trimP p = q at *
          clear hp oX he e hh oe z ct d h0
          refine ret_of_awp tab Tryz.func51 rfl rfl (Nat.le_of_ble_eq_true rfl) (fun w0 F0 => ?_)
          repeat' (first
            | (show awpL _ _ _ _ _; first | refine goL ?_ | refine cl 43 tt rfl rfl rfl (hr := dg) (k := ?_) | refine cl 97 tt rfl rfl rfl (hr := vd) (k := ?_) | refine cl 98 tt rfl rfl rfl (hr := hu) (k := ?_) | refine cl 68 tt rfl rfl rfl (hr := nc) (k := ?_) | refine cl 95 tt rfl rfl rfl (hr := cm) (k := ?_) | refine cl 36 tt rfl rfl rfl (hr := ev) (k := ?_) | refine cl 99 tt rfl rfl rfl (hr := sg) (k := ?_) | (refine gdLG ?_ ?_ <;> intro _ <;> try (exfalso; omega)))
            | (show awp _ _ _ _; first | refine goA ?_ | refine rg 4 9 ?_ | refine rg 14 7 ?_ | refine rg 16 3 ?_ | (refine cdG ?_ ?_ <;> intro _ <;> try (exfalso; omega)))
            | (show andThen _ _ _ _; refine goN ?_)
            | (show inBlock _ _ _ _; refine goB ?_)
            | (show awpR _ _ _ _ _ _ _; first | refine goR ?_ | refine clR 43 tt rfl rfl rfl (hr := dg) (k := ?_) | refine clR 97 tt rfl rfl rfl (hr := vd) (k := ?_) | refine clR 98 tt rfl rfl rfl (hr := hu) (k := ?_) | refine clR 68 tt rfl rfl rfl (hr := nc) (k := ?_) | refine clR 95 tt rfl rfl rfl (hr := cm) (k := ?_) | refine clR 36 tt rfl rfl rfl (hr := ev) (k := ?_) | refine clR 99 tt rfl rfl rfl (hr := sg) (k := ?_) | (refine gdRG ?_ ?_ <;> intro _ <;> try (exfalso; omega)))
            | (show retPost _ _ _ _ _; refine finTG ?_))
          exact leT
      · have hlt : X.1 < X.2 := by grind
        have c0 : cmpQ X.1 X.2 = -1 := by unfold cmpQ; rw [if_pos hlt]
        rw [c0] at cm
        rw [if_neg b] at he ⊢
        by_cases d : c = 1
        · have hb : bits < 0 ∨ 128 < bits := Classical.byContradiction fun hn => he (by rw [if_neg (by simp [h0, d]), if_neg hn])
          have e : (if trimP p = [] ∨ decide (c = 1) = false then (4 : Int) else if bits < 0 ∨ 128 < bits then 1 else 0) = 1 := by rw [if_neg (by simp [h0, d]), if_pos hb]
          rw [e]
          subst d
          generalize trimP p = q at *
          clear hp oX he e hh oe z h0 ev sg
          rcases hb with hb | hb
          · refine ret_of_awp tab Tryz.func51 rfl rfl (Nat.le_of_ble_eq_true rfl) (fun w0 F0 => ?_)
            repeat' (first
              | (show awpL _ _ _ _ _; first | refine goL ?_ | refine cl 43 tt rfl rfl rfl (hr := dg) (k := ?_) | refine cl 97 tt rfl rfl rfl (hr := vd) (k := ?_) | refine cl 98 tt rfl rfl rfl (hr := hu) (k := ?_) | refine cl 68 tt rfl rfl rfl (hr := nc) (k := ?_) | refine cl 95 tt rfl rfl rfl (hr := cm) (k := ?_) | refine cl 69 tt rfl rfl rfl (hr := ct) (k := ?_) | (refine gdLG ?_ ?_ <;> intro _ <;> try (exfalso; omega)))
              | (show awp _ _ _ _; first | refine goA ?_ | refine rg 4 9 ?_ | refine rg 14 7 ?_ | refine rg 16 3 ?_ | (refine cdG ?_ ?_ <;> intro _ <;> try (exfalso; omega)))
              | (show andThen _ _ _ _; refine goN ?_)
              | (show inBlock _ _ _ _; refine goB ?_)
              | (show awpR _ _ _ _ _ _ _; first | refine goR ?_ | refine clR 43 tt rfl rfl rfl (hr := dg) (k := ?_) | refine clR 97 tt rfl rfl rfl (hr := vd) (k := ?_) | refine clR 98 tt rfl rfl rfl (hr := hu) (k := ?_) | refine clR 68 tt rfl rfl rfl (hr := nc) (k := ?_) | refine clR 95 tt rfl rfl rfl (hr := cm) (k := ?_) | refine clR 69 tt rfl rfl rfl (hr := ct) (k := ?_) | (refine gdRG ?_ ?_ <;> intro _ <;> try (exfalso; omega)))
              | (show retPost _ _ _ _ _; refine finTG ?_))
            exact leT
          · refine ret_of_awp tab Tryz.func51 rfl rfl (Nat.le_of_ble_eq_true rfl) (fun w0 F0 => ?_)
            repeat' (first
              | (show awpL _ _ _ _ _; first | refine goL ?_ | refine cl 43 tt rfl rfl rfl (hr := dg) (k := ?_) | refine cl 97 tt rfl rfl rfl (hr := vd) (k := ?_) | refine cl 98 tt rfl rfl rfl (hr := hu) (k := ?_) | refine cl 68 tt rfl rfl rfl (hr := nc) (k := ?_) | refine cl 95 tt rfl rfl rfl (hr := cm) (k := ?_) | refine cl 69 tt rfl rfl rfl (hr := ct) (k := ?_) | (refine gdLG ?_ ?_ <;> intro _ <;> try (exfalso; omega)))
              | (show awp _ _ _ _; first | refine goA ?_ | refine rg 4 9 ?_ | refine rg 14 7 ?_ | refine rg 16 3 ?_ | (refine cdG ?_ ?_ <;> intro _ <;> try (exfalso; omega)))
              | (show andThen _ _ _ _; refine goN ?_)
              | (show inBlock _ _ _ _; refine goB ?_)
              | (show awpR _ _ _ _ _ _ _; first | refine goR ?_ | refine clR 43 tt rfl rfl rfl (hr := dg) (k := ?_) | refine clR 97 tt rfl rfl rfl (hr := vd) (k := ?_) | refine clR 98 tt rfl rfl rfl (hr := hu) (k := ?_) | refine clR 68 tt rfl rfl rfl (hr := nc) (k := ?_) | refine clR 95 tt rfl rfl rfl (hr := cm) (k := ?_) | refine clR 69 tt rfl rfl rfl (hr := ct) (k := ?_) | (refine gdRG ?_ ?_ <;> intro _ <;> try (exfalso; omega)))
              | (show retPost _ _ _ _ _; refine finTG ?_))
            exact leT
        · have e : (if trimP p = [] ∨ decide (c = 1) = false then (4 : Int) else if bits < 0 ∨ 128 < bits then 1 else 0) = 4 := by rw [if_pos (.inr (decide_eq_false d))]
          rw [e]
          generalize trimP p = q at *
          clear hp oX he e hh oe z h0 ev sg
          refine ret_of_awp tab Tryz.func51 rfl rfl (Nat.le_of_ble_eq_true rfl) (fun w0 F0 => ?_)
          repeat' (first
            | (show awpL _ _ _ _ _; first | refine goL ?_ | refine cl 43 tt rfl rfl rfl (hr := dg) (k := ?_) | refine cl 97 tt rfl rfl rfl (hr := vd) (k := ?_) | refine cl 98 tt rfl rfl rfl (hr := hu) (k := ?_) | refine cl 68 tt rfl rfl rfl (hr := nc) (k := ?_) | refine cl 95 tt rfl rfl rfl (hr := cm) (k := ?_) | refine cl 69 tt rfl rfl rfl (hr := ct) (k := ?_) | (refine gdLG ?_ ?_ <;> intro _ <;> try (exfalso; omega)))
            | (show awp _ _ _ _; first | refine goA ?_ | refine rg 4 9 ?_ | refine rg 14 7 ?_ | refine rg 16 3 ?_ | (refine cdG ?_ ?_ <;> intro _ <;> try (exfalso; omega)))
            | (show andThen _ _ _ _; refine goN ?_)
            | (show inBlock _ _ _ _; refine goB ?_)
            | (show awpR _ _ _ _ _ _ _; first | refine goR ?_ | refine clR 43 tt rfl rfl rfl (hr := dg) (k := ?_) | refine clR 97 tt rfl rfl rfl (hr := vd) (k := ?_) | refine clR 98 tt rfl rfl rfl (hr := hu) (k := ?_) | refine clR 68 tt rfl rfl rfl (hr := nc) (k := ?_) | refine clR 95 tt rfl rfl rfl (hr := cm) (k := ?_) | refine clR 69 tt rfl rfl rfl (hr := ct) (k := ?_) | (refine gdRG ?_ ?_ <;> intro _ <;> try (exfalso; omega)))
            | (show retPost _ _ _ _ _; refine finTG ?_))
          exact leT
    · rw [decide_eq_false a] at vd
      have e : refErr p X bits = 4 := by unfold refErr holdsB; rw [decide_eq_false a, Bool.false_and, if_pos (.inr rfl)]
      rw [e]
      generalize trimP p = q at *
      clear hp oX he e h0
      refine ret_of_awp tab Tryz.func51 rfl rfl (Nat.le_of_ble_eq_true rfl) (fun w0 F0 => ?_)
      repeat' (first
        | (show awpL _ _ _ _ _; first | refine goL ?_ | refine cl 43 tt rfl rfl rfl (hr := dg) (k := ?_) | refine cl 97 tt rfl rfl rfl (hr := vd) (k := ?_) | (refine gdLG ?_ ?_ <;> intro _ <;> try (exfalso; omega)))
        | (show awp _ _ _ _; first | refine goA ?_ | refine rg 4 9 ?_ | refine rg 14 7 ?_ | refine rg 16 3 ?_ | (refine cdG ?_ ?_ <;> intro _ <;> try (exfalso; omega)))
        | (show andThen _ _ _ _; refine goN ?_)
        | (show inBlock _ _ _ _; refine goB ?_)
        | (show awpR _ _ _ _ _ _ _; first | refine goR ?_ | refine clR 43 tt rfl rfl rfl (hr := dg) (k := ?_) | refine clR 97 tt rfl rfl rfl (hr := vd) (k := ?_) | (refine gdRG ?_ ?_ <;> intro _ <;> try (exfalso; omega)))
        | (show retPost _ _ _ _ _; refine finTG ?_))
      exact leT
end Go.Proofs.YtlphlodailailaaGreat
