/-
  A statement of the seat: what its contract is, and the claim. Conditions: as each says.
-/
import Derived.Test.YtlphlodailailaaGreatY31
import Derived.Test.YtlphlodailailaaGreatS67
import Derived.Test.YtlphlodailailaaGreatA09
set_option linter.unusedVariables false
set_option linter.unusedSimpArgs false
set_option maxHeartbeats 8000000
namespace Go.Proofs.YtlphlodailailaaGreat
open Go.Vw
attribute [local irreducible] awp awpL awpR

theorem cntF_nonneg {p : List Rat} (tp : Tr p) (p0 : p ≠ []) (a b : Rat) (h : a < b) : 0 ≤ cntF (ctr p) a b := by
  have hg := gcdP_tr tp (tr_trim (derC p))
  have tQ : Tr (ctrQ p) := (divP_spec tp hg.1 (hg.2 (.inl p0)).1).1
  have := vrs_le chS_small tQ (quot_bez tp p0) (n := (ctrQ p).length + 1) (Nat.lt_succ_self _) h
  unfold cntF
  rw [if_pos h, vrsF_eq, vrsF_eq]
  unfold ctr
  omega
theorem cntF_add (F : List (List Rat)) (a m b : Rat) (h1 : a < m) (h2 : m < b) : cntF F a m + cntF F m b = cntF F a b := by
  unfold cntF
  rw [if_pos h1, if_pos h2, if_pos (by grind)]
  omega
theorem numQ_bd (v : Int) : -30 ≤ numQ v ∧ numQ v ≤ 30 := by
  unfold numQ
  have a1 : -30 ≤ v % 61 - 30 := by omega
  have a2 : v % 61 - 30 ≤ 30 := by omega
  have b1 : 1 ≤ 1 + v.tdiv 61 % 4 := by omega
  generalize v % 61 - 30 = a at *
  generalize 1 + v.tdiv 61 % 4 = b at *
  have b2 : (1 : Rat) ≤ (b : Rat) := by
    rw [show (1 : Rat) = ((1 : Int) : Rat) from rfl]
    exact Rat.intCast_le_intCast.2 b1
  have a3 : ((-30 : Int) : Rat) ≤ (a : Rat) := Rat.intCast_le_intCast.2 a1
  have a4 : (a : Rat) ≤ ((30 : Int) : Rat) := Rat.intCast_le_intCast.2 a2
  have e30 : ((30 : Int) : Rat) = 30 := rfl
  have e31 : ((-30 : Int) : Rat) = -30 := rfl
  rw [e31] at a3
  rw [e30] at a4
  rw [Rat.divInt_eq_div]
  have hb : (0 : Rat) < (b : Rat) := by grind
  have e : (a : Rat) / (b : Rat) * (b : Rat) = (a : Rat) := div_mul_cancel' (Rat.ne_of_gt hb)
  generalize (a : Rat) / (b : Rat) = q at *
  constructor
  · refine Rat.not_lt.1 fun h => ?_
    have := mul_le_mul' (a := 1) (b := (b : Rat)) (c := -q) (d := -q) b2 Rat.le_refl (by grind) (by grind)
    grind
  · refine Rat.not_lt.1 fun h => ?_
    have := mul_le_mul' (a := 1) (b := (b : Rat)) (c := q) (d := q) b2 Rat.le_refl (by grind) (by grind)
    grind
theorem polOk_small {p : List Rat} (op : ∀ q ∈ p, okQ 2 q) (lp : p.length ≤ 6) : PolOk p := ⟨by omega, fun x hx => (op x hx).mono (by decide), fun h0 => ctr_small (tr_trim p) h0 (ht2 op lp) (Nat.le_trans (trim_len p) lp)⟩
theorem refined {p : List Rat} {X : I2} (hb : ¬ (trimP p = [] ∨ holdsB p X = false)) (K : Nat) : withinI (refK (cfn p) X K) X = true ∧ holdsB p (refK (cfn p) X K) = true ∧ X.1 ≤ X.2 ∧ (refK (cfn p) X K).1 ≤ (refK (cfn p) X K).2 := by
  have h0 : trimP p ≠ [] := fun e => hb (.inl e)
  have hh : holdsB p X = true := by
    cases e : holdsB p X
    · exact absurd (.inr e) hb
    · rfl
  have hh2 := hh
  unfold holdsB cntV at hh
  rw [if_neg h0, Bool.and_eq_true] at hh
  obtain ⟨a1, a2⟩ := hh
  have a := of_decide_eq_true a1
  obtain ⟨i1, i2, i3⟩ := refK_in (cfn p) a K
  refine ⟨by unfold withinI; simp [i1, i3], ?_, a, i2⟩
  unfold holdsB cntV
  rw [decide_eq_true i2, Bool.true_and, if_neg h0]
  by_cases b : X.1 = X.2
  · rw [if_pos b] at a2
    have e1 : (refK (cfn p) X K).1 = X.1 := by grind
    rw [if_pos (by grind), e1]
    exact a2
  · rw [if_neg b] at a2
    obtain ⟨c1, c2⟩ := refK_one (C := cfn p) (fun a b h => cntF_nonneg (tr_trim p) h0 a b h) (fun a m b h1 h2 => cntF_add _ a m b h1 h2) (x := X) (by grind) (of_decide_eq_true a2) K
    rw [if_neg (by grind)]
    exact decide_eq_true c2
theorem hw_big (n : Nat) {w : Rat} (h : w ≤ 60) : hw w (6 + n) ≤ hw 1 n := by
  have h1 : hw w 6 ≤ 1 := by
    have := hw_le (show w ≤ 64 by grind) 6
    rwa [show hw 64 6 = 1 by decide +kernel] at this
  rw [← hw_add]
  exact hw_le h1 n
theorem refines_true (a : List Int) (lo hi bits : Int) (na : a.length ≤ 9223372036854775807) (xa : I64 a) (l1 : -9223372036854775808 ≤ lo) (l2 : lo < 9223372036854775808) (h1 : -9223372036854775808 ≤ hi) (h2 : hi < 9223372036854775808) (b1 : -9223372036854775808 ≤ bits) (b2 : bits < 9223372036854775808) : Ret Tryz.prog 11 [i64s a, .int .i64 lo, .int .i64 hi, .int .i64 bits] (· = .bool true) := by
  have aw := law05_awake
  have sa := law05_small a 6 na xa (by decide)
  have n1 := made_Number lo l1 l2
  have n2 := made_Number hi h1 h2
  have op := nums2 a 6
  have ox := numQ2 lo
  have oy := numQ2 hi
  have bx := numQ_bd lo
  have bY := numQ_bd hi
  have lp : ((a.take 6).map numQ).length ≤ 6 := by rw [List.length_map, List.length_take]; omega
  generalize (a.take 6).map numQ = p at *
  generalize numQ lo = x at *
  generalize numQ hi = y at *
  clear na xa l1 l2 h1 h2
  have hp := polOk_small op lp
  obtain ⟨n, hn⟩ : ∃ n : Int, n = (if 20 < bits ∧ bits ≤ 128 then bits % 21 else bits) := ⟨_, rfl⟩
  have oX : okI 150000 ((x, y) : I2) := ⟨ox.mono (by decide), oy.mono (by decide)⟩
  have re := ref05_RefineError hp (x, y) oX n
  by_cases he : refErr p (x, y) n = 0
  · have hb : ¬ (trimP p = [] ∨ holdsB p (x, y) = false) := fun e => by
      unfold refErr at he
      rw [if_pos e] at he
      exact absurd he (by decide)
    have hn2 : ¬ (n < 0 ∨ 128 < n) := fun e => by
      unfold refErr at he
      rw [if_neg hb, if_pos e] at he
      exact absurd he (by decide)
    have hn3 : n ≤ 20 := by
      rw [hn] at hn2 ⊢
      split
      · omega
      · rename_i e; rw [if_neg e] at hn2; omega
    obtain ⟨N, rfl⟩ : ∃ N : Nat, n = N := ⟨n.toNat, by omega⟩
    obtain ⟨D, M, D0, hD, hM, d1, d2⟩ := Dy.start ox oy
    obtain ⟨K, k0, k1, k2⟩ := least (P := fun k => hw (y - x) k ≤ hw 1 N) (6 + N) (hw_big N (by grind))
    have rf := polynomial_RefineO hp (x, y) D0 hD hM d1 d2 N (by omega) he K (by omega) k1 k2
    obtain ⟨r1, r2, r3, r4⟩ := refined hb K
    have rw1 := refK_w (cfn p) (x, y) K
    obtain ⟨e1, e2⟩ := refK_dy (C := cfn p) (x := (x, y)) D0 d1 d2 K
    have oY : okI 1000 (refK (cfn p) (x, y) K) := ⟨(e1.ok D0 hD hM).mono (by omega), (e2.ok D0 hD hM).mono (by omega)⟩
    rw [he] at re
    generalize refK (cfn p) (x, y) K = Y at *
    have wi := ref04_Within (rq Y.1) (rq Y.2) (rq x) (rq y) (ok_rq (oY.1.mono (by decide))) (ok_rq (oY.2.mono (by decide))) (ok_rq (ox.mono (by decide))) (ok_rq (oy.mono (by decide)))
    rw [rv_rq, rv_rq, rv_rq, rv_rq, takeI_of r4, takeI_of (show x ≤ y from r3), show withinI (Y.1, Y.2) (x, y) = true from r1] at wi
    have ho := ref05_Holds hp Y ⟨oY.1.mono (by decide), oY.2.mono (by decide)⟩
    rw [r2] at ho
    have wd := ref04_Width (rq Y.1) (rq Y.2) (ok_rq (oY.1.mono (by decide))) (ok_rq (oY.2.mono (by decide)))
    rw [rv_rq, rv_rq, takeI_of r4] at wd
    have ow : okQ 2000 (Y.2 - Y.1) := (oY.2.sub oY.1).mono (by decide)
    have tw := ref04_Two N (by omega)
    have ot := okQ_two (show N ≤ 128 by omega)
    have ml := ref03_MulQ (Y.2 - Y.1) (twoQ N) (ow.mono (by decide)) (ot.mono (by decide))
    have f1 := ref03_FromIntW 1 (by decide) (by decide)
    have ls := ref03_LessQ ((1 : Int) : Rat) ((Y.2 - Y.1) * twoQ N) ((ok_intW (by decide)).mono (by decide)) ((ow.mul ot).mono (by decide))
    have lf : ¬ ((1 : Int) : Rat) < (Y.2 - Y.1) * twoQ N := by
      have q1 := mul_le' k1 (Rat.le_of_lt (twoQ_pos N))
      rw [hw_two 1 N] at q1
      rw [rw1]
      have : ((1 : Int) : Rat) = 1 := rfl
      rw [this]
      exact Rat.not_lt.2 q1
    rw [decide_eq_false lf] at ls
    clear hp op ox oy oX he hb hn3 D0 hD hM d1 d2 k0 k1 k2 r1 r2 r3 r4 rw1 e1 e2 oY ow ot lf bx bY
    generalize (Y.2 - Y.1) * twoQ N = t at *
    generalize Y.2 - Y.1 = s at *
    generalize twoQ N = u at *
    by_cases ha : 20 < bits
    · by_cases hb : bits ≤ 128
      · rw [if_pos ⟨ha, hb⟩] at hn
        rw [hn] at rf re tw
        clear hn
        refine ret_of_awp tab Tryz.func11 rfl rfl (Nat.le_of_ble_eq_true rfl) (fun w0 F0 => ?_)
        repeat' (first
          | (show awpL _ _ _ _ _; first | refine goL ?_ | refine cl 13 tt rfl rfl rfl (hr := sa) (k := ?_) | refine cl 14 tt rfl rfl rfl (hr := n1) (k := ?_) | refine cl 14 tt rfl rfl rfl (hr := n2) (k := ?_) | refine cl 51 tt rfl rfl rfl (hr := rf) (k := ?_) | refine cl 52 tt rfl rfl rfl (hr := re) (k := ?_) | refine cl 15 tt rfl rfl rfl (hr := aw) (k := ?_) | refine cl 54 tt rfl rfl rfl (hr := wi) (k := ?_) | refine cl 55 tt rfl rfl rfl (hr := ho) (k := ?_) | refine cl 31 tt rfl rfl rfl (hr := f1) (k := ?_) | refine cl 56 tt rfl rfl rfl (hr := wd) (k := ?_) | refine cl 57 tt rfl rfl rfl (hr := tw) (k := ?_) | refine cl 41 tt rfl rfl rfl (hr := ml) (k := ?_) | refine cl 28 tt rfl rfl rfl (hr := ls) (k := ?_) | (refine gdLG ?_ ?_ <;> intro _ <;> try (exfalso; omega)))
          | (show awp _ _ _ _; first | refine goA ?_ | refine rg 8 20 ?_ | (refine cdG ?_ ?_ <;> intro _ <;> try (exfalso; omega)))
          | (show andThen _ _ _ _; refine goN ?_)
          | (show inBlock _ _ _ _; refine goB ?_)
          | (show awpR _ _ _ _ _ _ _; first | refine goR ?_ | refine clR 13 tt rfl rfl rfl (hr := sa) (k := ?_) | refine clR 14 tt rfl rfl rfl (hr := n1) (k := ?_) | refine clR 14 tt rfl rfl rfl (hr := n2) (k := ?_) | refine clR 51 tt rfl rfl rfl (hr := rf) (k := ?_) | refine clR 52 tt rfl rfl rfl (hr := re) (k := ?_) | refine clR 15 tt rfl rfl rfl (hr := aw) (k := ?_) | refine clR 54 tt rfl rfl rfl (hr := wi) (k := ?_) | refine clR 55 tt rfl rfl rfl (hr := ho) (k := ?_) | refine clR 31 tt rfl rfl rfl (hr := f1) (k := ?_) | refine clR 56 tt rfl rfl rfl (hr := wd) (k := ?_) | refine clR 57 tt rfl rfl rfl (hr := tw) (k := ?_) | refine clR 41 tt rfl rfl rfl (hr := ml) (k := ?_) | refine clR 28 tt rfl rfl rfl (hr := ls) (k := ?_) | (refine gdRG ?_ ?_ <;> intro _ <;> try (exfalso; omega)))
          | (show retPost _ _ _ _ _; refine finG ?_))
        all_goals simp
      · rw [if_neg (fun h => hb h.2)] at hn
        rw [hn] at rf re tw
        clear hn
        refine ret_of_awp tab Tryz.func11 rfl rfl (Nat.le_of_ble_eq_true rfl) (fun w0 F0 => ?_)
        repeat' (first
          | (show awpL _ _ _ _ _; first | refine goL ?_ | refine cl 13 tt rfl rfl rfl (hr := sa) (k := ?_) | refine cl 14 tt rfl rfl rfl (hr := n1) (k := ?_) | refine cl 14 tt rfl rfl rfl (hr := n2) (k := ?_) | refine cl 51 tt rfl rfl rfl (hr := rf) (k := ?_) | refine cl 52 tt rfl rfl rfl (hr := re) (k := ?_) | refine cl 15 tt rfl rfl rfl (hr := aw) (k := ?_) | refine cl 54 tt rfl rfl rfl (hr := wi) (k := ?_) | refine cl 55 tt rfl rfl rfl (hr := ho) (k := ?_) | refine cl 31 tt rfl rfl rfl (hr := f1) (k := ?_) | refine cl 56 tt rfl rfl rfl (hr := wd) (k := ?_) | refine cl 57 tt rfl rfl rfl (hr := tw) (k := ?_) | refine cl 41 tt rfl rfl rfl (hr := ml) (k := ?_) | refine cl 28 tt rfl rfl rfl (hr := ls) (k := ?_) | (refine gdLG ?_ ?_ <;> intro _ <;> try (exfalso; omega)))
          | (show awp _ _ _ _; first | refine goA ?_ | refine rg 8 20 ?_ | (refine cdG ?_ ?_ <;> intro _ <;> try (exfalso; omega)))
          | (show andThen _ _ _ _; refine goN ?_)
          | (show inBlock _ _ _ _; refine goB ?_)
          | (show awpR _ _ _ _ _ _ _; first | refine goR ?_ | refine clR 13 tt rfl rfl rfl (hr := sa) (k := ?_) | refine clR 14 tt rfl rfl rfl (hr := n1) (k := ?_) | refine clR 14 tt rfl rfl rfl (hr := n2) (k := ?_) | refine clR 51 tt rfl rfl rfl (hr := rf) (k := ?_) | refine clR 52 tt rfl rfl rfl (hr := re) (k := ?_) | refine clR 15 tt rfl rfl rfl (hr := aw) (k := ?_) | refine clR 54 tt rfl rfl rfl (hr := wi) (k := ?_) | refine clR 55 tt rfl rfl rfl (hr := ho) (k := ?_) | refine clR 31 tt rfl rfl rfl (hr := f1) (k := ?_) | refine clR 56 tt rfl rfl rfl (hr := wd) (k := ?_) | refine clR 57 tt rfl rfl rfl (hr := tw) (k := ?_) | refine clR 41 tt rfl rfl rfl (hr := ml) (k := ?_) | refine clR 28 tt rfl rfl rfl (hr := ls) (k := ?_) | (refine gdRG ?_ ?_ <;> intro _ <;> try (exfalso; omega)))
          | (show retPost _ _ _ _ _; refine finG ?_))
        all_goals simp
    · rw [if_neg (fun h => ha h.1)] at hn
      rw [hn] at rf re tw
      clear hn
      refine ret_of_awp tab Tryz.func11 rfl rfl (Nat.le_of_ble_eq_true rfl) (fun w0 F0 => ?_)
      repeat' (first
        | (show awpL _ _ _ _ _; first | refine goL ?_ | refine cl 13 tt rfl rfl rfl (hr := sa) (k := ?_) | refine cl 14 tt rfl rfl rfl (hr := n1) (k := ?_) | refine cl 14 tt rfl rfl rfl (hr := n2) (k := ?_) | refine cl 51 tt rfl rfl rfl (hr := rf) (k := ?_) | refine cl 52 tt rfl rfl rfl (hr := re) (k := ?_) | refine cl 15 tt rfl rfl rfl (hr := aw) (k := ?_) | refine cl 54 tt rfl rfl rfl (hr := wi) (k := ?_) | refine cl 55 tt rfl rfl rfl (hr := ho) (k := ?_) | refine cl 31 tt rfl rfl rfl (hr := f1) (k := ?_) | refine cl 56 tt rfl rfl rfl (hr := wd) (k := ?_) | refine cl 57 tt rfl rfl rfl (hr := tw) (k := ?_) | refine cl 41 tt rfl rfl rfl (hr := ml) (k := ?_) | refine cl 28 tt rfl rfl rfl (hr := ls) (k := ?_) | (refine gdLG ?_ ?_ <;> intro _ <;> try (exfalso; omega)))
        | (show awp _ _ _ _; first | refine goA ?_ | refine rg 8 20 ?_ | (refine cdG ?_ ?_ <;> intro _ <;> try (exfalso; omega)))
        | (show andThen _ _ _ _; refine goN ?_)
        | (show inBlock _ _ _ _; refine goB ?_)
        | (show awpR _ _ _ _ _ _ _; first | refine goR ?_ | refine clR 13 tt rfl rfl rfl (hr := sa) (k := ?_) | refine clR 14 tt rfl rfl rfl (hr := n1) (k := ?_) | refine clR 14 tt rfl rfl rfl (hr := n2) (k := ?_) | refine clR 51 tt rfl rfl rfl (hr := rf) (k := ?_) | refine clR 52 tt rfl rfl rfl (hr := re) (k := ?_) | refine clR 15 tt rfl rfl rfl (hr := aw) (k := ?_) | refine clR 54 tt rfl rfl rfl (hr := wi) (k := ?_) | refine clR 55 tt rfl rfl rfl (hr := ho) (k := ?_) | refine clR 31 tt rfl rfl rfl (hr := f1) (k := ?_) | refine clR 56 tt rfl rfl rfl (hr := wd) (k := ?_) | refine clR 57 tt rfl rfl rfl (hr := tw) (k := ?_) | refine clR 41 tt rfl rfl rfl (hr := ml) (k := ?_) | refine clR 28 tt rfl rfl rfl (hr := ls) (k := ?_) | (refine gdRG ?_ ?_ <;> intro _ <;> try (exfalso; omega)))
        | (show retPost _ _ _ _ _; refine finG ?_))
      all_goals simp
  · have rf := polynomial_RefineE hp (x, y) oX n he
    have zq : iQ ((0, 0) : I2) = iD r0 r0 := by show iD (rq 0) (rq 0) = _; rw [rq_zero']
    rw [zq] at rf
    have sm := ref04_Same r0 r0 r0 r0 ⟨by decide, by decide⟩ ⟨by decide, by decide⟩ ⟨by decide, by decide⟩ ⟨by decide, by decide⟩
    rw [decide_eq_true rfl, Bool.and_self] at sm
    generalize refErr p (x, y) n = f at *
    clear hp op ox oy oX bx bY zq
    by_cases ha : 20 < bits
    · by_cases hb : bits ≤ 128
      · rw [if_pos ⟨ha, hb⟩] at hn
        rw [hn] at rf re
        clear hn
        refine ret_of_awp tab Tryz.func11 rfl rfl (Nat.le_of_ble_eq_true rfl) (fun w0 F0 => ?_)
        repeat' (first
          | (show awpL _ _ _ _ _; first | refine goL ?_ | refine cl 13 tt rfl rfl rfl (hr := sa) (k := ?_) | refine cl 14 tt rfl rfl rfl (hr := n1) (k := ?_) | refine cl 14 tt rfl rfl rfl (hr := n2) (k := ?_) | refine cl 51 tt rfl rfl rfl (hr := rf) (k := ?_) | refine cl 52 tt rfl rfl rfl (hr := re) (k := ?_) | refine cl 15 tt rfl rfl rfl (hr := aw) (k := ?_) | refine cl 53 tt rfl rfl rfl (hr := sm) (k := ?_) | (refine gdLG ?_ ?_ <;> intro _ <;> try (exfalso; omega)))
          | (show awp _ _ _ _; first | refine goA ?_ | refine rg 8 20 ?_ | (refine cdG ?_ ?_ <;> intro _ <;> try (exfalso; omega)))
          | (show andThen _ _ _ _; refine goN ?_)
          | (show inBlock _ _ _ _; refine goB ?_)
          | (show awpR _ _ _ _ _ _ _; first | refine goR ?_ | refine clR 13 tt rfl rfl rfl (hr := sa) (k := ?_) | refine clR 14 tt rfl rfl rfl (hr := n1) (k := ?_) | refine clR 14 tt rfl rfl rfl (hr := n2) (k := ?_) | refine clR 51 tt rfl rfl rfl (hr := rf) (k := ?_) | refine clR 52 tt rfl rfl rfl (hr := re) (k := ?_) | refine clR 15 tt rfl rfl rfl (hr := aw) (k := ?_) | refine clR 53 tt rfl rfl rfl (hr := sm) (k := ?_) | (refine gdRG ?_ ?_ <;> intro _ <;> try (exfalso; omega)))
          | (show retPost _ _ _ _ _; refine finG ?_))
        all_goals simp
      · rw [if_neg (fun h => hb h.2)] at hn
        rw [hn] at rf re
        clear hn
        refine ret_of_awp tab Tryz.func11 rfl rfl (Nat.le_of_ble_eq_true rfl) (fun w0 F0 => ?_)
        repeat' (first
          | (show awpL _ _ _ _ _; first | refine goL ?_ | refine cl 13 tt rfl rfl rfl (hr := sa) (k := ?_) | refine cl 14 tt rfl rfl rfl (hr := n1) (k := ?_) | refine cl 14 tt rfl rfl rfl (hr := n2) (k := ?_) | refine cl 51 tt rfl rfl rfl (hr := rf) (k := ?_) | refine cl 52 tt rfl rfl rfl (hr := re) (k := ?_) | refine cl 15 tt rfl rfl rfl (hr := aw) (k := ?_) | refine cl 53 tt rfl rfl rfl (hr := sm) (k := ?_) | (refine gdLG ?_ ?_ <;> intro _ <;> try (exfalso; omega)))
          | (show awp _ _ _ _; first | refine goA ?_ | refine rg 8 20 ?_ | (refine cdG ?_ ?_ <;> intro _ <;> try (exfalso; omega)))
          | (show andThen _ _ _ _; refine goN ?_)
          | (show inBlock _ _ _ _; refine goB ?_)
          | (show awpR _ _ _ _ _ _ _; first | refine goR ?_ | refine clR 13 tt rfl rfl rfl (hr := sa) (k := ?_) | refine clR 14 tt rfl rfl rfl (hr := n1) (k := ?_) | refine clR 14 tt rfl rfl rfl (hr := n2) (k := ?_) | refine clR 51 tt rfl rfl rfl (hr := rf) (k := ?_) | refine clR 52 tt rfl rfl rfl (hr := re) (k := ?_) | refine clR 15 tt rfl rfl rfl (hr := aw) (k := ?_) | refine clR 53 tt rfl rfl rfl (hr := sm) (k := ?_) | (refine gdRG ?_ ?_ <;> intro _ <;> try (exfalso; omega)))
          | (show retPost _ _ _ _ _; refine finG ?_))
        all_goals simp
    · rw [if_neg (fun h => ha h.1)] at hn
      rw [hn] at rf re
      clear hn
      refine ret_of_awp tab Tryz.func11 rfl rfl (Nat.le_of_ble_eq_true rfl) (fun w0 F0 => ?_)
      repeat' (first
        | (show awpL _ _ _ _ _; first | refine goL ?_ | refine cl 13 tt rfl rfl rfl (hr := sa) (k := ?_) | refine cl 14 tt rfl rfl rfl (hr := n1) (k := ?_) | refine cl 14 tt rfl rfl rfl (hr := n2) (k := ?_) | refine cl 51 tt rfl rfl rfl (hr := rf) (k := ?_) | refine cl 52 tt rfl rfl rfl (hr := re) (k := ?_) | refine cl 15 tt rfl rfl rfl (hr := aw) (k := ?_) | refine cl 53 tt rfl rfl rfl (hr := sm) (k := ?_) | (refine gdLG ?_ ?_ <;> intro _ <;> try (exfalso; omega)))
        | (show awp _ _ _ _; first | refine goA ?_ | refine rg 8 20 ?_ | (refine cdG ?_ ?_ <;> intro _ <;> try (exfalso; omega)))
        | (show andThen _ _ _ _; refine goN ?_)
        | (show inBlock _ _ _ _; refine goB ?_)
        | (show awpR _ _ _ _ _ _ _; first | refine goR ?_ | refine clR 13 tt rfl rfl rfl (hr := sa) (k := ?_) | refine clR 14 tt rfl rfl rfl (hr := n1) (k := ?_) | refine clR 14 tt rfl rfl rfl (hr := n2) (k := ?_) | refine clR 51 tt rfl rfl rfl (hr := rf) (k := ?_) | refine clR 52 tt rfl rfl rfl (hr := re) (k := ?_) | refine clR 15 tt rfl rfl rfl (hr := aw) (k := ?_) | refine clR 53 tt rfl rfl rfl (hr := sm) (k := ?_) | (refine gdRG ?_ ?_ <;> intro _ <;> try (exfalso; omega)))
        | (show retPost _ _ _ _ _; refine finG ?_))
      all_goals simp
end Go.Proofs.YtlphlodailailaaGreat
