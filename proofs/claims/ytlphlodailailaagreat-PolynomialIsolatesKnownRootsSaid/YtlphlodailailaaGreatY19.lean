/-
  A statement of the seat: what its contract is, and the claim. Conditions: as each says.
-/
import Derived.Test.YtlphlodailailaaGreatY18
import Derived.Test.YtlphlodailailaaGreatA10
set_option linter.unusedVariables false
set_option linter.unusedSimpArgs false
set_option maxHeartbeats 8000000
namespace Go.Proofs.YtlphlodailailaaGreat
open Go.Vw
attribute [local irreducible] awp awpL awpR

theorem rvs_ok {p : List R3} {K : Nat} (h : ∀ r ∈ p, RatOk r K) (hK : 1 < K) : ∀ x ∈ p.map rv, okQ K x := fun x hx => by
  obtain ⟨r, hr, rfl⟩ := List.mem_map.1 hx
  exact okQ_rv (h r hr) hK
theorem ref05_Mul (p q : List R3) (K : Nat) (hp : p.length ≤ 100) (hq : q.length ≤ 100) (kp : ∀ r ∈ p, RatOk r K) (kq : ∀ r ∈ q, RatOk r K) (hK : 1 < K) (hK2 : K * (2 * q.length + 3) ≤ 4000000) : Ret Tryz.prog 26 [rsD p, rsD q] (· = qsD (trimP (mulC (p.map rv) (q.map rv)))) := by
  have hK3 : K ≤ 1333334 := by
    have := Nat.mul_le_mul_left K (show 3 ≤ 2 * q.length + 3 by omega)
    omega
  have op := rvs_ok kp hK
  have oq := rvs_ok kq hK
  have fin : trimP (mulC ((q.map rv).take q.length) (p.map rv)) = trimP (mulC (p.map rv) (q.map rv)) := by
    rw [List.take_of_length_le (by rw [List.length_map]; omega)]
    exact trim_ext (mul_comm_eqv _ _)
  rw [← fin]
  obtain ⟨A, hA⟩ : ∃ A : Nat → List Rat, ∀ i, A i = trimP (mulC ((q.map rv).take i) (p.map rv)) := ⟨fun i => trimP (mulC ((q.map rv).take i) (p.map rv)), fun _ => rfl⟩
  have oA : ∀ i, i ≤ q.length → ∀ x ∈ A i, okQ 4000000 x := fun i hi x hx => by
    rw [hA] at hx
    refine cf_ok (fun k => ?_) x (trim_mem hx)
    rw [show cf (mulC ((q.map rv).take i) (p.map rv)) k = rowV (q.map rv) (p.map rv) i 0 k by
      unfold rowV
      rw [List.take_zero, cf_shift]
      simp [smul, Rat.add_zero]]
    refine (ok_row oq op hK (by rw [List.length_map]; exact hi) 0 k).mono ?_
    have h1 : 2 * K * i + 3 * K = K * (2 * i + 3) := by rw [Nat.mul_add, Nat.mul_comm K 3, ← Nat.mul_assoc, Nat.mul_comm K 2]
    have h2 := Nat.mul_le_mul_left K (show 2 * i + 3 ≤ 2 * q.length + 3 by omega)
    omega
  have lA : ∀ i, (A i).length ≤ 300 := fun i => by
    rw [hA]
    refine (tr_trim (mulC ((q.map rv).take i) (p.map rv))).len_lt fun j hj => ?_
    rw [cf_trim]
    exact (mul_high ((q.map rv).take i) (p.map rv) q.length p.length (fun j hj => cf_ge (by rw [List.length_take, List.length_map]; omega)) (fun j hj => cf_ge (by rw [List.length_map]; omega))).2 j (by omega)
  have sA : ∀ i, i < q.length → trimP (addC (A i) (trimP (shiftP i (smul (rv (q.getD i r0)) (p.map rv))))) = A (i + 1) := fun i hi => by
    rw [hA, hA]
    have e : (q.map rv).take (i + 1) = (q.map rv).take i ++ [rv (q.getD i r0)] := by
      rw [List.take_add_one, List.getElem?_map, List.getD_eq_getElem?_getD, List.getElem?_eq_getElem hi]; rfl
    rw [e]
    refine trim_ext ((add_eqv (trim_eqv _) (trim_eqv _)).trans ?_)
    have := mul_snoc ((q.map rv).take i) (rv (q.getD i r0)) (p.map rv)
    rw [List.length_take, List.length_map, show min i q.length = i by omega] at this
    exact this.symm
  have a0 : A 0 = [] := by rw [hA, List.take_zero]; rfl
  rw [← hA]
  clear hA fin
  refine ret_of_awp tab Tryz.func26 rfl rfl (Nat.le_of_ble_eq_true rfl) (fun w0 F0 => ?_)
  repeat' (first
    | (show awpL _ _ _ _ _; first | refine goL ?_ | (refine gdLG ?_ ?_ <;> intro _ <;> try (exfalso; omega)))
    | (show awp _ _ _ _; first | refine goA ?_ | (refine cdG ?_ ?_ <;> intro _ <;> try (exfalso; omega)))
    | (show andThen _ _ _ _; refine goN ?_)
    | (show inBlock _ _ _ _; refine goB ?_)
    | (show retPost _ _ _ _ _; refine finG ?_))
  refine awp_nils 5 3 qC 0 rfl ?_
  refine awp_loop1 (fun (i : Nat) => ([(0, .d (rsD p)), (1, .d (rsD q)), (5, .d (qsD (A i))), (6, .d (.int .i64 i))], [])) (fun i => i ≤ q.length) (fun i => q.length - i) 0 (by omega) ⟨rfl, rfl, (by rw [a0]; rfl), rfl, rfl⟩ trivial (fun i hi => ?_)
  by_cases h3 : i < q.length
  · have s1 := ref05_scaled p (q.getD i r0) i (by omega) (by omega) (fun r hr => (kp r hr).up (by omega)) ((ok_getD kq hK i).up (by omega))
    have oS : ∀ x ∈ trimP (shiftP i (smul (rv (q.getD i r0)) (p.map rv))), okQ 5000000 x := cf_ok fun k => by
      rw [cf_trim, cf_shift]
      split
      · exact okQ_zero (by decide)
      · rw [cf_smul]; exact ((okQ_rv (ok_getD kq hK i) hK).mul (ok_cf op hK _)).mono (by omega)
    have lS : (trimP (shiftP i (smul (rv (q.getD i r0)) (p.map rv)))).length ≤ 500 := by
      have h1 := trim_len (shiftP i (smul (rv (q.getD i r0)) (p.map rv)))
      have h2 : (shiftP i (smul (rv (q.getD i r0)) (p.map rv))).length = i + p.length := by
        unfold shiftP; rw [List.length_append, List.length_replicate, len_smul, List.length_map]
      omega
    have a1 := ref05_Add ((A i).map rq) ((trimP (shiftP i (smul (rv (q.getD i r0)) (p.map rv)))).map rq) (by rw [List.length_map]; have := lA i; omega) (by rw [List.length_map]; exact lS) (rqs_ok fun x hx => (oA i hi x hx).mono (by decide)) (rqs_ok oS)
    rw [map_rv_rqL, map_rv_rqL, sA i h3] at a1
    have a2 := a1.args (leQRs _ (leQRs _ (LeT.refl _)))
    generalize trimP (shiftP i (smul (rv (q.getD i r0)) (p.map rv))) = S at *
    clear oA lA sA op oq kp kq a1 oS lS
    repeat' (first
      | (show awpL _ _ _ _ _; first | refine goL ?_ | refine cl 67 tt rfl rfl rfl (hr := s1) (k := ?_) | refine cl 74 tt rfl rfl rfl (hr := a2) (k := ?_) | (refine gdLG ?_ ?_ <;> intro _ <;> try (exfalso; omega)))
      | (show awp _ _ _ _; first | refine goA ?_ | (refine cdG ?_ ?_ <;> intro _ <;> try (exfalso; omega)))
      | (show andThen _ _ _ _; refine goN ?_)
      | (show inBlock _ _ _ _; refine goB ?_)
      | (show retPost _ _ _ _ _; refine finG ?_))
    exact ⟨i + 1, by omega, by omega, ⟨rfl, rfl, rfl, iv (by omega), rfl⟩, trivial⟩
  · have e : i = q.length := by omega
    subst e
    clear oA lA sA op oq kp kq
    repeat' (first
      | (show awpL _ _ _ _ _; first | refine goL ?_ | (refine gdLG ?_ ?_ <;> intro _ <;> try (exfalso; omega)))
      | (show awp _ _ _ _; first | refine goA ?_ | (refine cdG ?_ ?_ <;> intro _ <;> try (exfalso; omega)))
      | (show andThen _ _ _ _; refine goN ?_)
      | (show inBlock _ _ _ _; refine goB ?_)
      | (show retPost _ _ _ _ _; refine finG ?_))
    rfl
theorem stepQ_eq (q r d : List Rat) (c : Rat) (hc : c = remC r d) : trimP (addC q (trimP (shiftP (remK r d) (smul 1 [c])))) = stepQP q r d := by
  subst hc
  unfold stepQP
  refine trim_ext ((add_eqv (Eqv.refl _) (trim_eqv _)).trans ?_)
  rw [smul_one]
  exact Eqv.refl _
theorem stepR_eq (r d : List Rat) : trimP (subC r (trimP (shiftP (remK r d) (smul (remC r d) d)))) = stepRP r d := by
  unfold stepRP
  refine trim_ext fun i => ?_
  rw [cf_sub, cf_sub, cf_trim]
theorem ref05_Div (a b : List R3) {h l : Nat} (d0 : trimP (b.map rv) ≠ []) (lp : a.length ≤ 100) (ka : ∀ r ∈ a, RatOk r 10000000) (ld : b.length ≤ 100) (kb : ∀ r ∈ b, RatOk r 10000000) (H : HtP h (trimP (a.map rv))) (L : HtP l (trimP (b.map rv))) (hb : h + ((trimP (a.map rv)).length + 1 - (trimP (b.map rv)).length) * l + l ≤ 2000000) : Ret Tryz.prog 62 [rsD a, rsD b] (· = .tup [qsD (divP (trimP (a.map rv)) (trimP (b.map rv))).1, qsD (divP (trimP (a.map rv)) (trimP (b.map rv))).2, .int .i64 0]) := by
  have ta := ref05_Trim a (by omega) ka
  have tb := ref05_Trim b (by omega) kb
  have la := trim_len (a.map rv)
  have lb := trim_len (b.map rv)
  rw [List.length_map] at la lb
  have hpT := tr_trim (a.map rv)
  have hdT := tr_trim (b.map rv)
  generalize trimP (a.map rv) = p at *
  generalize trimP (b.map rv) = d at *
  have h1 := HtP.gt H
  have l1 := HtP.gt L
  have f1 := ref03_FromIntW 1 (by decide) (by decide)
  have dl : 0 < d.length := ne_len d0
  obtain ⟨N, hN⟩ : ∃ N, p.length + 1 - d.length = N := ⟨_, rfl⟩
  rw [hN] at hb
  have ldd : lead d ≠ 0 := lead_ne hdT d0
  have od : ∀ x ∈ d, okQ 2000000 x := fun x hx => (L.okL x hx).mono (by omega)
  obtain ⟨Z, hZ⟩ : ∃ Z, divP p d = Z := ⟨_, rfl⟩
  have hst : divL (p.length + 1) [] p d = Z := hZ
  rw [hZ]
  clear ka kb
  refine ret_of_awp tab Tryz.func62 rfl rfl (Nat.le_of_ble_eq_true rfl) (fun w0 F0 => ?_)
  repeat' (first
    | (show awpL _ _ _ _ _; first | refine goL ?_ | refine cl 44 tt rfl rfl rfl (hr := ta) (k := ?_) | refine cl 44 tt rfl rfl rfl (hr := tb) (k := ?_) | (refine gdLG ?_ ?_ <;> intro _ <;> try (exfalso; omega)))
    | (show awp _ _ _ _; first | refine goA ?_ | refine rgK 6 20 [8] ?_ | refine rg 7 6 ?_ | (refine cdG ?_ ?_ <;> intro _ <;> try (exfalso; omega)))
    | (show andThen _ _ _ _; refine goN ?_)
    | (show inBlock _ _ _ _; refine goB ?_)
    | (show awpR _ _ _ _ _ _ _; first | refine goR ?_ | refine clR 44 tt rfl rfl rfl (hr := ta) (k := ?_) | refine clR 44 tt rfl rfl rfl (hr := tb) (k := ?_) | (refine gdRG ?_ ?_ <;> intro _ <;> try (exfalso; omega)))
    | (show retPost _ _ _ _ _; refine finG ?_))
  refine awp_nils 7 3 qC 0 rfl ?_
  refine awp_loop1 (fun (x : List Rat × List Rat × Nat) => ([(0, .d (qsD x.2.1)), (1, .d (qsD d)), (7, .d (qsD x.1))], [])) (fun x => Tr x.2.1 ∧ x.2.1.length < x.2.2 ∧ divL x.2.2 x.1 x.2.1 d = Z ∧ x.2.1.length ≤ p.length ∧ (∀ i, okQ 2000000 (cf x.1 i)) ∧ (∀ i, i + d.length ≤ x.2.1.length → cf x.1 i = 0) ∧ x.1.length ≤ N ∧ ∃ k, k + (x.2.1.length + 1 - d.length) ≤ N ∧ HtP (h + k * l) x.2.1) (fun x => x.2.1.length) ([], p, p.length + 1) ⟨hpT, Nat.lt_succ_self _, hst, Nat.le_refl _, fun _ => okQ_zero (by decide), fun _ _ => rfl, Nat.zero_le _, 0, by show 0 + (p.length + 1 - d.length) ≤ N; omega, H.mono (by omega)⟩ ⟨rfl, rfl, rfl, rfl⟩ trivial (fun x hx => ?_)
  obtain ⟨q, r, n⟩ := x
  obtain ⟨i1, i2, i3, i4, i5, i6, i7, k, i8, i9⟩ := hx
  dsimp only at i1 i2 i3 i4 i5 i6 i7 i8 i9 ⊢
  obtain ⟨n, rfl⟩ : ∃ m, n = m + 1 := ⟨n - 1, by omega⟩
  rw [divL] at i3
  by_cases h3 : d.length ≤ r.length
  · rw [if_neg (by omega)] at i3
    have hkl := Nat.mul_le_mul_right l (show k ≤ N by omega)
    have kl2 : h + k * l + l ≤ 2000000 := by omega
    have or : ∀ x ∈ r, okQ 2000000 x := fun x hx => (i9.okL x hx).mono (by omega)
    have hrl := stepRP_len i1 hdT d0 h3
    have hht := i9.stepRP L ldd
    have oc := (remC_ok i9 L ldd).mono (show _ ≤ 2000000 by omega)
    have e1 : ((r.length : Int) - 1).toNat = r.length - 1 := by omega
    have e2 : ((d.length : Int) - 1).toNat = d.length - 1 := by omega
    have d1 := ref03_QuoQ (lead r) (lead d) ((ok_cf or (by decide) _).mono (by decide)) ((ok_cf od (by decide) _).mono (by decide)) ldd
    have d2 : Ret Tryz.prog 105 [qD (r.getD ((r.length : Int) - 1).toNat 0), qD (d.getD ((d.length : Int) - 1).toNat 0)] (· = qD (remC r d)) := by rw [e1, e2]; exact d1
    obtain ⟨K, hK⟩ : ∃ K, remK r d = K := ⟨_, rfl⟩
    have hK2 : K = r.length - d.length := hK.symm
    have eq1 := stepQ_eq q r d (remC r d) rfl
    have er1 := stepR_eq r d
    have ecq : ∀ i, cf (stepQP q r d) i = if i = K then remC r d else cf q i := fun i => by
      rw [← hK]
      unfold stepQP
      rw [cf_trim, cf_add, cf_shift]
      by_cases g : i = remK r d
      · subst g
        rw [if_neg (by omega), Nat.sub_self, cf_zero, if_pos rfl, i6 _ (by unfold remK; omega), Rat.zero_add]
      · rw [if_neg g]
        split
        · rw [Rat.add_zero]
        · rw [cf_ge (p := [remC r d]) (by show 1 ≤ i - remK r d; omega), Rat.add_zero]
    have oq2 : ∀ i, okQ 2000000 (cf (stepQP q r d) i) := fun i => by
      rw [ecq]; split
      · exact oc
      · exact i5 i
    have zq2 : ∀ i, i + d.length ≤ (stepRP r d).length → cf (stepQP q r d) i = 0 := fun i hi => by
      rw [ecq, if_neg (by omega)]; exact i6 i (by omega)
    have lq2 : (stepQP q r d).length ≤ N := (tr_trim _).len_lt fun i hi => by
      show cf (stepQP q r d) i = 0
      rw [ecq, if_neg (by omega)]; exact cf_ge (by omega)
    rw [hK] at eq1 er1
    have s1 := ref05_scaled [rq (remC r d)] (rq ((1 : Int) : Rat)) K (by simp) (by omega) (fun x hx => by
      rw [List.mem_singleton.1 hx]; exact ok_rq (oc.mono (by decide))) (ok_rq ((ok_intW (by decide)).mono (by decide)))
    rw [List.map_cons, List.map_nil, rv_rq, rv_rq, show (smul ((1 : Int) : Rat) [remC r d]) = smul 1 [remC r d] from rfl] at s1
    have s2 := ref05_scaled (d.map rq) (rq (remC r d)) K (by rw [List.length_map]; omega) (by omega) (rqs_ok fun x hx => (od x hx).mono (by decide)) (ok_rq (oc.mono (by decide)))
    rw [map_rv_rqL, rv_rq] at s2
    have s2 := s2.args (leQRs d (LeT.refl _))
    have oS1 : ∀ x ∈ trimP (shiftP K (smul 1 [remC r d])), okQ 2000000 x := cf_ok fun i => by
      rw [cf_trim, cf_shift, smul_one]
      split
      · exact okQ_zero (by decide)
      · exact ok_cf (fun x hx => by rw [List.mem_singleton.1 hx]; exact oc) (by decide) _
    have oS2 : ∀ x ∈ trimP (shiftP K (smul (remC r d) d)), okQ 4000000 x := cf_ok fun i => by
      rw [cf_trim, cf_shift]
      split
      · exact okQ_zero (by decide)
      · rw [cf_smul]; exact oc.mul (ok_cf od (by decide) _)
    have lS1 : (trimP (shiftP K (smul 1 [remC r d]))).length ≤ 400 := by
      have h1 := trim_len (shiftP K (smul 1 [remC r d]))
      have h2 : (shiftP K (smul 1 [remC r d])).length = K + 1 := by
        unfold shiftP; rw [List.length_append, List.length_replicate, len_smul]; rfl
      omega
    have lS2 : (trimP (shiftP K (smul (remC r d) d))).length ≤ 400 := by
      have h1 := trim_len (shiftP K (smul (remC r d) d))
      have h2 : (shiftP K (smul (remC r d) d)).length = K + d.length := by
        unfold shiftP; rw [List.length_append, List.length_replicate, len_smul]
      omega
    have a1 := ref05_Add (q.map rq) ((trimP (shiftP K (smul 1 [remC r d]))).map rq) (by rw [List.length_map]; omega) (by rw [List.length_map]; omega) (rqs_ok fun x hx => (cf_ok i5 x hx).mono (by decide)) (rqs_ok fun x hx => (oS1 x hx).mono (by decide))
    rw [map_rv_rqL, map_rv_rqL, eq1] at a1
    have a2 := a1.args (leQRs _ (leQRs _ (LeT.refl _)))
    have b1 := ref05_Sub (r.map rq) ((trimP (shiftP K (smul (remC r d) d))).map rq) (by rw [List.length_map]; omega) (by rw [List.length_map]; exact lS2) (rqs_ok fun x hx => (or x hx).mono (by decide)) (rqs_ok fun x hx => (oS2 x hx).mono (by decide))
    rw [map_rv_rqL, map_rv_rqL, er1] at b1
    have b2 := b1.args (leQRs _ (leQRs _ (LeT.refl _)))
    have htr : Tr (stepRP r d) := tr_trim _
    have hkf : ∃ k', k' + ((stepRP r d).length + 1 - d.length) ≤ N ∧ HtP (h + k' * l) (stepRP r d) := ⟨k + 1, by omega, hht.mono (by rw [Nat.add_mul, Nat.one_mul]; omega)⟩
    have hn2 : (stepRP r d).length < n := by omega
    have hr4 : (stepRP r d).length ≤ p.length := by omega
    generalize stepRP r d = r2 at *
    generalize stepQP q r d = q2 at *
    generalize trimP (shiftP K (smul 1 [remC r d])) = S1 at *
    generalize trimP (shiftP K (smul (remC r d) d)) = S2 at *
    generalize remC r d = c at *
    generalize ((1 : Int) : Rat) = u at *
    have e3 : ((r.length : Int) - (d.length : Int)) = (K : Int) := by omega
    rw [← e3] at s1 s2
    clear ta tb i5 i6 or od oS1 oS2 ecq d1 a1 b1 eq1 er1
    repeat' (first
      | (show awpL _ _ _ _ _; first | refine goL ?_ | refine cl 105 tt rfl rfl rfl (hr := d2) (k := ?_) | refine cl 31 tt rfl rfl rfl (hr := f1) (k := ?_) | refine cl 67 tt rfl rfl rfl (hr := s1) (k := ?_) | refine cl 67 tt rfl rfl rfl (hr := s2) (k := ?_) | refine cl 74 tt rfl rfl rfl (hr := a2) (k := ?_) | refine cl 106 tt rfl rfl rfl (hr := b2) (k := ?_) | (refine gdLG ?_ ?_ <;> intro _ <;> try (exfalso; omega)))
      | (show awp _ _ _ _; first | refine goA ?_ | refine rgK 6 20 [8] ?_ | refine rg 7 6 ?_ | (refine cdG ?_ ?_ <;> intro _ <;> try (exfalso; omega)))
      | (show andThen _ _ _ _; refine goN ?_)
      | (show inBlock _ _ _ _; refine goB ?_)
      | (show awpR _ _ _ _ _ _ _; first | refine goR ?_ | refine clR 105 tt rfl rfl rfl (hr := d2) (k := ?_) | refine clR 31 tt rfl rfl rfl (hr := f1) (k := ?_) | refine clR 67 tt rfl rfl rfl (hr := s1) (k := ?_) | refine clR 67 tt rfl rfl rfl (hr := s2) (k := ?_) | refine clR 74 tt rfl rfl rfl (hr := a2) (k := ?_) | refine clR 106 tt rfl rfl rfl (hr := b2) (k := ?_) | (refine gdRG ?_ ?_ <;> intro _ <;> try (exfalso; omega)))
      | (show retPost _ _ _ _ _; refine finG ?_))
    exact ⟨(q2, r2, n), ⟨htr, hn2, i3, hr4, oq2, zq2, lq2, hkf⟩, hrl, ⟨rfl, rfl, rfl, rfl⟩, trivial⟩
  · rw [if_pos (by omega)] at i3
    subst i3
    clear ta tb i5 i6 od
    repeat' (first
      | (show awpL _ _ _ _ _; first | refine goL ?_ | (refine gdLG ?_ ?_ <;> intro _ <;> try (exfalso; omega)))
      | (show awp _ _ _ _; first | refine goA ?_ | refine rgK 6 20 [8] ?_ | refine rg 7 6 ?_ | (refine cdG ?_ ?_ <;> intro _ <;> try (exfalso; omega)))
      | (show andThen _ _ _ _; refine goN ?_)
      | (show inBlock _ _ _ _; refine goB ?_)
      | (show awpR _ _ _ _ _ _ _; first | refine goR ?_ | (refine gdRG ?_ ?_ <;> intro _ <;> try (exfalso; omega)))
      | (show retPost _ _ _ _ _; refine finTG ?_))
    all_goals first | rfl | exact LeT.refl _
end Go.Proofs.YtlphlodailailaaGreat
