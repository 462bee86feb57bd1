/-
  A statement of the seat: what its contract is, and the claim. Conditions: as each says.
-/
import Derived.Test.YtlphlodailailaaGreatS63
import Derived.Test.YtlphlodailailaaGreatPolL
import Derived.Test.YtlphlodailailaaGreatA08
set_option linter.unusedVariables false
set_option linter.unusedSimpArgs false
set_option maxHeartbeats 8000000
namespace Go.Proofs.YtlphlodailailaaGreat
open Go.Vw
attribute [local irreducible] awp awpL awpR

theorem numQ2 (v : Int) : okQ 2 (numQ v) := by
  have lm : ∀ n, n < 4294967296 → (limbs n).length < 2 := fun n h => by
    rcases Nat.eq_zero_or_pos n with e | e
    · subst e; rw [limbs_zero]; decide
    · rw [limbs_small (by show n < 4294967296; omega) (by omega)]; simp
  exact okQ_divInt (by omega) (lm _ (by omega)) (lm _ (by omega))
theorem nums2 (l : List Int) (m : Nat) : ∀ q ∈ (l.take m).map numQ, okQ 2 q := fun q hq => by
  obtain ⟨v, _, rfl⟩ := List.mem_map.1 hq
  exact numQ2 v
theorem law05_small (l : List Int) (m : Nat) (hl : l.length ≤ 9223372036854775807) (hx : I64 l) (hm : m ≤ 1000) : Ret Tryz.prog 13 [i64s l, .int .i64 m] (· = qsD ((l.take m).map numQ)) := by
  have h := made_Numbers l m hl hx hm
  generalize (l.take m).map numQ = r at *
  clear hx
  refine ret_of_awp tab Tryz.func13 rfl rfl (Nat.le_of_ble_eq_true rfl) (fun w0 F0 => ?_)
  repeat' (first
    | (show awpL _ _ _ _ _; first | refine goL ?_ | refine cl 24 tt rfl rfl rfl (hr := h) (k := ?_) | (refine gdLG ?_ ?_ <;> intro _ <;> try (exfalso; omega)))
    | (show awp _ _ _ _; first | refine goA ?_ | (refine cdG ?_ ?_ <;> intro _ <;> try (exfalso; omega)))
    | (show andThen _ _ _ _; refine goN ?_)
    | (show inBlock _ _ _ _; refine goB ?_)
    | (show retPost _ _ _ _ _; refine finG ?_))
  rfl
theorem ht2 {p : List Rat} (hp : ∀ x ∈ p, okQ 2 x) {n : Nat} (hl : p.length ≤ n) : HtP (n * 2 + 2) (trimP p) := (HtP.of_ok (by decide) p hp).trim.mono (by omega)
theorem mulT_le {p m : List Rat} {a b : Nat} (hp : p.length ≤ a) (hm : m.length ≤ b) : (mulT p m).length ≤ a + b := (tr_mulT p m).len_lt fun i hi => by
  unfold mulT
  rw [cf_trim]
  have hh := mul_high p m a b (fun i hi => cf_ge (by omega)) (fun i hi => cf_ge (by omega))
  by_cases e : i = a + b
  · rw [e, hh.1, cf_ge hp, Rat.zero_mul]
  · exact hh.2 i (by omega)
theorem polynomial_MulQ (p q : List Rat) (K : Nat) (hp : p.length ≤ 100) (hq : q.length ≤ 100) (kp : ∀ x ∈ p, okQ K x) (kq : ∀ x ∈ q, okQ K x) (hK : 1 < K) (hK2 : K * (2 * p.length + 3) ≤ 1000000) : Ret Tryz.prog 33 [qsD p, qsD q] (· = qsD (mulT p q)) := by
  have h := polynomial_Mul (p.map rq) (q.map rq) K (by rw [List.length_map]; exact hp) (by rw [List.length_map]; exact hq) (rqs_ok kp) (rqs_ok kq) hK (by rw [List.length_map]; exact hK2)
  rw [map_rv_rqL, map_rv_rqL] at h
  exact h.args (leQRs p (leQRs q (LeT.refl _)))
theorem polynomial_GcdQ (p q : List Rat) (hp : p.length ≤ 99) (hq : q.length ≤ 99) (kp : ∀ x ∈ p, okQ 1000000 x) (kq : ∀ x ∈ q, okQ 1000000 x) (hJ : JG (trimP p) (trimP q)) : Ret Tryz.prog 17 [qsD p, qsD q] (· = qsD (gcdP (trimP p) (trimP q))) := by
  have h := polynomial_GcdJ (p.map rq) (q.map rq) (by rw [List.length_map]; exact hp) (by rw [List.length_map]; exact hq) (rqs_ok kp) (rqs_ok kq) (by rw [map_rv_rqL, map_rv_rqL]; exact hJ)
  rw [map_rv_rqL, map_rv_rqL] at h
  exact h.args (leQRs p (leQRs q (LeT.refl _)))
theorem ref05_DegreeQ (p : List Rat) (hp : p.length ≤ 400) (kp : ∀ x ∈ p, okQ 100000 x) : Ret Tryz.prog 30 [qsD p] (· = .int .i64 (((trimP p).length : Int) - 1)) := by
  have h := ref05_Degree (p.map rq) (by rw [List.length_map]; omega) (rqs_ok kp)
  rw [map_rv_rqL] at h
  exact h.args (leQRs p (LeT.refl _))
theorem greatest_true (a b c : List Int) (na : a.length ≤ 9223372036854775807) (nb : b.length ≤ 9223372036854775807) (nc : c.length ≤ 9223372036854775807) (xa : I64 a) (xb : I64 b) (xc : I64 c) : Ret Tryz.prog 5 [i64s a, i64s b, i64s c] (· = .bool true) := by
  have aw := law05_awake
  have sa := law05_small a 4 na xa (by decide)
  have sb := law05_small b 4 nb xb (by decide)
  have sd3 := law05_small c 3 nc xc (by decide)
  have op := nums2 a 4
  have oq := nums2 b 4
  have om := nums2 c 3
  have lp : ((a.take 4).map numQ).length ≤ 4 := by rw [List.length_map, List.length_take]; omega
  have lq : ((b.take 4).map numQ).length ≤ 4 := by rw [List.length_map, List.length_take]; omega
  have lm : ((c.take 3).map numQ).length ≤ 3 := by rw [List.length_map, List.length_take]; omega
  generalize (a.take 4).map numQ = p at *
  generalize (b.take 4).map numQ = q at *
  generalize (c.take 3).map numQ = m at *
  clear na nb nc xa xb xc
  have tp := tr_trim p
  have tq := tr_trim q
  have tm := tr_trim m
  have hP := ht2 op lp
  have hQ := ht2 oq lq
  have hM := ht2 om lm
  have lP := trim_len p
  have lQ := trim_len q
  have lM := trim_len m
  have jg : JG (trimP p) (trimP q) := JG.of tp tq hP hQ (by
    have := Nat.mul_le_mul_left 11 (Nat.pow_le_pow_right (show 0 < 3 by decide) (show max (trimP p).length ((trimP q).length + 1) ≤ 5 by omega))
    unfold Bud; omega)
  have g1 := polynomial_GcdQ p q (by omega) (by omega) (fun x hx => (op x hx).mono (by decide)) (fun x hx => (oq x hx).mono (by decide)) jg
  have dp := ref05_DegreeQ p (by omega) (fun x hx => (op x hx).mono (by decide))
  have dq := ref05_DegreeQ q (by omega) (fun x hx => (oq x hx).mono (by decide))
  have dm := ref05_DegreeQ m (by omega) (fun x hx => (om x hx).mono (by decide))
  by_cases h0 : trimP p = [] ∧ trimP q = []
  · obtain ⟨e1, e2⟩ := h0
    rw [e1, e2, show gcdP [] [] = [] from rfl] at g1
    rw [e1] at dp
    rw [e2] at dq
    clear op oq om hP hQ hM jg tp tq tm lP lQ lM
    refine ret_of_awp tab Tryz.func5 rfl rfl (Nat.le_of_ble_eq_true rfl) (fun w0 F0 => ?_)
    repeat' (first
      | (show awpL _ _ _ _ _; first | refine goL ?_ | refine cl 13 tt rfl rfl rfl (hr := sa) (k := ?_) | refine cl 13 tt rfl rfl rfl (hr := sb) (k := ?_) | refine cl 13 tt rfl rfl rfl (hr := sd3) (k := ?_) | refine cl 17 tt rfl rfl rfl (hr := g1) (k := ?_) | refine cl 30 tt rfl rfl rfl (hr := dp) (k := ?_) | refine cl 30 tt rfl rfl rfl (hr := dq) (k := ?_) | refine cl 15 tt rfl rfl rfl (hr := aw) (k := ?_) | (refine gdLG ?_ ?_ <;> intro _ <;> try (exfalso; omega)))
      | (show awp _ _ _ _; first | refine goA ?_ | refine rg 5 11 ?_ | (refine cdG ?_ ?_ <;> intro _ <;> try (exfalso; omega)))
      | (show andThen _ _ _ _; refine goN ?_)
      | (show inBlock _ _ _ _; refine goB ?_)
      | (show awpR _ _ _ _ _ _ _; first | refine goR ?_ | refine clR 13 tt rfl rfl rfl (hr := sa) (k := ?_) | refine clR 13 tt rfl rfl rfl (hr := sb) (k := ?_) | refine clR 13 tt rfl rfl rfl (hr := sd3) (k := ?_) | refine clR 17 tt rfl rfl rfl (hr := g1) (k := ?_) | refine clR 30 tt rfl rfl rfl (hr := dp) (k := ?_) | refine clR 30 tt rfl rfl rfl (hr := dq) (k := ?_) | refine clR 15 tt rfl rfl rfl (hr := aw) (k := ?_) | (refine gdRG ?_ ?_ <;> intro _ <;> try (exfalso; omega)))
      | (show retPost _ _ _ _ _; refine finG ?_))
    all_goals rfl
  · have h1 : trimP p ≠ [] ∨ trimP q ≠ [] := by
      by_cases e : trimP p = []
      · exact .inr fun h => h0 ⟨e, h⟩
      · exact .inl e
    obtain ⟨tG, hG⟩ := gcdP_tr tp tq
    obtain ⟨G0, G1⟩ := hG h1
    obtain ⟨d1, d2⟩ := gcdP_dvd tp tq
    obtain ⟨Mg, hg1, hg2⟩ := JG.gcd _ jg (Nat.le_refl _)
    obtain ⟨l1, f1, f2⟩ := jg.divFit h1 hP (by omega) (by decide)
    obtain ⟨l2, f3, f4⟩ := jg.divFit h1 hQ (by omega) (by decide)
    have r1 := rem_of_dvd tp tG G0 d1
    have r2 := rem_of_dvd tq tG G0 d2
    have gl := ne_len G0
    have gmul : ∀ N : List Rat, Tr N → lead N = 1 → gcdP (mulT (trimP p) N) (mulT (trimP q) N) = mulT (gcdP (trimP p) (trimP q)) N := fun N tN N1 => gcdP_mulT tp tq tN N1
    have gl11 : (gcdP (trimP p) (trimP q)).length ≤ 11 := by
      by_cases g0 : (gcdP (trimP p) (trimP q)).length ≤ 11
      · exact g0
      · exfalso
        have b3 := Nat.pow_le_pow_right (show 0 < 3 by decide) (show 12 ≤ (gcdP (trimP p) (trimP q)).length by omega)
        have b4 := Nat.mul_le_mul_right (3 ^ (gcdP (trimP p) (trimP q)).length) (show 1 ≤ Mg + 1 by omega)
        have b5 : (3 : Nat) ^ 12 = 531441 := by decide
        unfold Bud at hg2
        omega
    generalize gcdP (trimP p) (trimP q) = G at *
    have fi := ref03_FromIntW 1 (by decide) (by decide)
    have eG : ((G.length : Int) - 1).toNat = G.length - 1 := by omega
    have sm := sameQ_of (G.getD ((G.length : Int) - 1).toNat 0) ((1 : Int) : Rat) (by rw [eG]; exact G1) (by rw [eG]; show okQ 1000000 (lead G); rw [G1]; exact okQ_one.mono (by decide))
    have v1 := (polynomial_DivR (p.map rq) G tG G0 (by rw [List.length_map]; omega) (rqs_ok fun x hx => (op x hx).mono (by decide)) (by omega) (h := 4 * 2 + 2) (l := l1) (by rw [map_rv_rqL]; exact hP) f1 (by rw [map_rv_rqL]; exact f2)).args (leQRs p (LeT.refl _))
    rw [map_rv_rqL, show (divP (trimP p) G).2 = [] from r1] at v1
    have v2 := (polynomial_DivR (q.map rq) G tG G0 (by rw [List.length_map]; omega) (rqs_ok fun x hx => (oq x hx).mono (by decide)) (by omega) (h := 4 * 2 + 2) (l := l2) (by rw [map_rv_rqL]; exact hQ) f3 (by rw [map_rv_rqL]; exact f4)).args (leQRs q (LeT.refl _))
    rw [map_rv_rqL, show (divP (trimP q) G).2 = [] from r2] at v2
    generalize (divP (trimP p) G).1 = Y1 at *
    generalize (divP (trimP q) G).1 = Y2 at *
    have hdd : ¬ (((trimP p).length : Int) - 1 < 0 ∧ ((trimP q).length : Int) - 1 < 0) := by
      intro h
      rcases h1 with h1 | h1
      · have := ne_len h1; omega
      · have := ne_len h1; omega
    have z0 : ([] : List Rat).length = 0 := rfl
    by_cases m0 : trimP m = []
    · rw [m0] at dm
      generalize ((1 : Int) : Rat) = u at *
      clear op oq om hP hQ hM jg tp tq tm lP lM lQ d1 d2 hg1 hg2 f1 f2 f3 f4 r1 r2 gmul
      refine ret_of_awp tab Tryz.func5 rfl rfl (Nat.le_of_ble_eq_true rfl) (fun w0 F0 => ?_)
      repeat' (first
        | (show awpL _ _ _ _ _; first | refine goL ?_ | refine cl 13 tt rfl rfl rfl (hr := sa) (k := ?_) | refine cl 13 tt rfl rfl rfl (hr := sb) (k := ?_) | refine cl 13 tt rfl rfl rfl (hr := sd3) (k := ?_) | refine cl 17 tt rfl rfl rfl (hr := g1) (k := ?_) | refine cl 30 tt rfl rfl rfl (hr := dp) (k := ?_) | refine cl 30 tt rfl rfl rfl (hr := dq) (k := ?_) | refine cl 30 tt rfl rfl rfl (hr := dm) (k := ?_) | refine cl 15 tt rfl rfl rfl (hr := aw) (k := ?_) | refine cl 31 tt rfl rfl rfl (hr := fi) (k := ?_) | refine cl 29 tt rfl rfl rfl (hr := sm) (k := ?_) | refine cl 32 tt rfl rfl rfl (hr := v1) (k := ?_) | refine cl 32 tt rfl rfl rfl (hr := v2) (k := ?_) | (refine gdLG ?_ ?_ <;> intro _ <;> try (exfalso; omega)))
        | (show awp _ _ _ _; first | refine goA ?_ | refine rg 5 11 ?_ | (refine cdG ?_ ?_ <;> intro _ <;> try (exfalso; omega)))
        | (show andThen _ _ _ _; refine goN ?_)
        | (show inBlock _ _ _ _; refine goB ?_)
        | (show awpR _ _ _ _ _ _ _; first | refine goR ?_ | refine clR 13 tt rfl rfl rfl (hr := sa) (k := ?_) | refine clR 13 tt rfl rfl rfl (hr := sb) (k := ?_) | refine clR 13 tt rfl rfl rfl (hr := sd3) (k := ?_) | refine clR 17 tt rfl rfl rfl (hr := g1) (k := ?_) | refine clR 30 tt rfl rfl rfl (hr := dp) (k := ?_) | refine clR 30 tt rfl rfl rfl (hr := dq) (k := ?_) | refine clR 30 tt rfl rfl rfl (hr := dm) (k := ?_) | refine clR 15 tt rfl rfl rfl (hr := aw) (k := ?_) | refine clR 31 tt rfl rfl rfl (hr := fi) (k := ?_) | refine clR 29 tt rfl rfl rfl (hr := sm) (k := ?_) | refine clR 32 tt rfl rfl rfl (hr := v1) (k := ?_) | refine clR 32 tt rfl rfl rfl (hr := v2) (k := ?_) | (refine gdRG ?_ ?_ <;> intro _ <;> try (exfalso; omega)))
        | (show retPost _ _ _ _ _; refine finG ?_))
      all_goals rfl
    · have tN := tr_monic tm
      have N1 := lead_monic tm m0
      have hN := hM.monic
      have lN : (monicP (trimP m)).length ≤ 3 := by rw [show (monicP (trimP m)).length = (trimP m).length from len_smul _ _]; omega
      have m1l := ne_len m0
      have gm0 := polynomial_GcdQ m [] (by omega) (by decide) (fun x hx => (om x hx).mono (by decide)) (fun x hx => by simp at hx) (by
        refine JG.of tm Tr.nil hM (HtP.nil.mono (by decide)) ?_
        have := Nat.mul_le_mul_left 9 (Nat.pow_le_pow_right (show 0 < 3 by decide) (show max (trimP m).length ((trimP ([] : List Rat)).length + 1) ≤ 3 by show max (trimP m).length 1 ≤ 3; omega))
        unfold Bud; omega)
      rw [show trimP ([] : List Rat) = [] from rfl, gcdP_nil] at gm0
      have gm : Ret Tryz.prog 17 [qsD m, .nils] (· = qsD (monicP (trimP m))) := gm0.args (LeT.cons (LeD.refl _) (LeT.cons LeD.nils (LeT.refl _)))
      have gmn := gmul _ tN N1
      generalize monicP (trimP m) = N at *
      have oN : ∀ x ∈ N, okQ 9 x := hN.okL
      have mp := polynomial_MulQ p N 9 (by omega) (by omega) (fun x hx => (op x hx).mono (by decide)) oN (by decide) (by
        have := Nat.mul_le_mul_left 9 (show 2 * p.length + 3 ≤ 11 by omega)
        omega)
      have mq := polynomial_MulQ q N 9 (by omega) (by omega) (fun x hx => (oq x hx).mono (by decide)) oN (by decide) (by
        have := Nat.mul_le_mul_left 9 (show 2 * q.length + 3 ≤ 11 by omega)
        omega)
      have ep : mulT p N = mulT (trimP p) N := trim_ext (mul_eqv_l N (trim_eqv p).symm)
      have eq' : mulT q N = mulT (trimP q) N := trim_ext (mul_eqv_l N (trim_eqv q).symm)
      rw [ep] at mp
      rw [eq'] at mq
      have hWp : HtP 23 (mulT (trimP p) N) := ((hP.mul hN).mono (by omega)).trim
      have hWq : HtP 23 (mulT (trimP q) N) := ((hQ.mul hN).mono (by omega)).trim
      have lWp : (mulT (trimP p) N).length ≤ 7 := mulT_le (a := 4) (b := 3) (by omega) lN
      have lWq : (mulT (trimP q) N).length ≤ 7 := mulT_le (a := 4) (b := 3) (by omega) lN
      have gg := polynomial_GcdQ (mulT (trimP p) N) (mulT (trimP q) N) (by omega) (by omega) (fun x hx => (hWp.okL x hx).mono (by decide)) (fun x hx => (hWq.okL x hx).mono (by decide)) (by
        rw [trim_of (tr_mulT _ _), trim_of (tr_mulT _ _)]
        refine JG.of (tr_mulT _ _) (tr_mulT _ _) hWp hWq ?_
        have := Nat.mul_le_mul_left 24 (Nat.pow_le_pow_right (show 0 < 3 by decide) (show max (mulT (trimP p) N).length ((mulT (trimP q) N).length + 1) ≤ 8 by omega))
        unfold Bud; omega)
      rw [trim_of (tr_mulT _ _), trim_of (tr_mulT _ _), gmn] at gg
      have hMg : Mg + 1 ≤ 66667 := by
        have k3 : 3 ≤ 3 ^ G.length := by
          have := Nat.pow_le_pow_right (show 0 < 3 by decide) gl
          simpa using this
        have := Nat.mul_le_mul_left (Mg + 1) k3
        unfold Bud at hg2
        omega
      have mg := polynomial_MulQ G N (Mg + 10) (by omega) (by omega) (fun x hx => (hg1.okL x hx).mono (by omega)) (fun x hx => (oN x hx).mono (by omega)) (by omega) (by
        have k1 := len_lt_pow3 G.length
        have k2 := Nat.mul_le_mul_left (Mg + 1) (show 2 * G.length + 3 ≤ 3 * 3 ^ G.length by omega)
        have k3 : (Mg + 1) * (3 * 3 ^ G.length) = 3 * ((Mg + 1) * 3 ^ G.length) := by rw [← Nat.mul_assoc, Nat.mul_comm (Mg + 1) 3, Nat.mul_assoc]
        have k4 : (Mg + 10) * (2 * G.length + 3) = (Mg + 1) * (2 * G.length + 3) + 9 * (2 * G.length + 3) := by rw [← Nat.add_mul]
        unfold Bud at hg2
        omega)
      have hWg := (hg1.mul hN).trim
      have lWg : (mulT G N).length ≤ 14 := mulT_le (a := 11) (b := 3) gl11 lN
      have sl := ref03_SameListQ (mulT G N) (mulT G N) (by omega) (by omega) (fun x hx => (hWg.okL x hx).mono (by omega)) (fun x hx => (hWg.okL x hx).mono (by omega))
      rw [decide_eq_true rfl] at sl
      generalize mulT G N = Wg at *
      generalize mulT (trimP p) N = Wp at *
      generalize mulT (trimP q) N = Wq at *
      generalize ((1 : Int) : Rat) = u at *
      clear op oq om hP hQ hM jg tp tq tm lP lQ d1 d2 hg1 hg2 f1 f2 f3 f4 r1 r2 gmul hN oN ep eq' hWp hWq hWg gm0
      refine ret_of_awp tab Tryz.func5 rfl rfl (Nat.le_of_ble_eq_true rfl) (fun w0 F0 => ?_)
      repeat' (first
        | (show awpL _ _ _ _ _; first | refine goL ?_ | refine cl 13 tt rfl rfl rfl (hr := sa) (k := ?_) | refine cl 13 tt rfl rfl rfl (hr := sb) (k := ?_) | refine cl 13 tt rfl rfl rfl (hr := sd3) (k := ?_) | refine cl 17 tt rfl rfl rfl (hr := g1) (k := ?_) | refine cl 30 tt rfl rfl rfl (hr := dp) (k := ?_) | refine cl 30 tt rfl rfl rfl (hr := dq) (k := ?_) | refine cl 30 tt rfl rfl rfl (hr := dm) (k := ?_) | refine cl 15 tt rfl rfl rfl (hr := aw) (k := ?_) | refine cl 31 tt rfl rfl rfl (hr := fi) (k := ?_) | refine cl 29 tt rfl rfl rfl (hr := sm) (k := ?_) | refine cl 32 tt rfl rfl rfl (hr := v1) (k := ?_) | refine cl 32 tt rfl rfl rfl (hr := v2) (k := ?_) | refine cl 17 tt rfl rfl rfl (hr := gm) (k := ?_) | refine cl 33 tt rfl rfl rfl (hr := mp) (k := ?_) | refine cl 33 tt rfl rfl rfl (hr := mq) (k := ?_) | refine cl 17 tt rfl rfl rfl (hr := gg) (k := ?_) | refine cl 33 tt rfl rfl rfl (hr := mg) (k := ?_) | refine cl 16 tt rfl rfl rfl (hr := sl) (k := ?_) | (refine gdLG ?_ ?_ <;> intro _ <;> try (exfalso; omega)))
        | (show awp _ _ _ _; first | refine goA ?_ | refine rg 5 11 ?_ | (refine cdG ?_ ?_ <;> intro _ <;> try (exfalso; omega)))
        | (show andThen _ _ _ _; refine goN ?_)
        | (show inBlock _ _ _ _; refine goB ?_)
        | (show awpR _ _ _ _ _ _ _; first | refine goR ?_ | refine clR 13 tt rfl rfl rfl (hr := sa) (k := ?_) | refine clR 13 tt rfl rfl rfl (hr := sb) (k := ?_) | refine clR 13 tt rfl rfl rfl (hr := sd3) (k := ?_) | refine clR 17 tt rfl rfl rfl (hr := g1) (k := ?_) | refine clR 30 tt rfl rfl rfl (hr := dp) (k := ?_) | refine clR 30 tt rfl rfl rfl (hr := dq) (k := ?_) | refine clR 30 tt rfl rfl rfl (hr := dm) (k := ?_) | refine clR 15 tt rfl rfl rfl (hr := aw) (k := ?_) | refine clR 31 tt rfl rfl rfl (hr := fi) (k := ?_) | refine clR 29 tt rfl rfl rfl (hr := sm) (k := ?_) | refine clR 32 tt rfl rfl rfl (hr := v1) (k := ?_) | refine clR 32 tt rfl rfl rfl (hr := v2) (k := ?_) | refine clR 17 tt rfl rfl rfl (hr := gm) (k := ?_) | refine clR 33 tt rfl rfl rfl (hr := mp) (k := ?_) | refine clR 33 tt rfl rfl rfl (hr := mq) (k := ?_) | refine clR 17 tt rfl rfl rfl (hr := gg) (k := ?_) | refine clR 33 tt rfl rfl rfl (hr := mg) (k := ?_) | refine clR 16 tt rfl rfl rfl (hr := sl) (k := ?_) | (refine gdRG ?_ ?_ <;> intro _ <;> try (exfalso; omega)))
        | (show retPost _ _ _ _ _; refine finG ?_))
      all_goals rfl
end Go.Proofs.YtlphlodailailaaGreat
