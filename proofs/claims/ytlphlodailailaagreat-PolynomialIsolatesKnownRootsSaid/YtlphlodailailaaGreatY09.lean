/-
  A statement of the seat: what its contract is, and the claim. Conditions: as each says.
-/
import Derived.Test.YtlphlodailailaaGreatY08
import Derived.Test.YtlphlodailailaaGreatA09
import Derived.Test.YtlphlodailailaaGreatA10
set_option linter.unusedVariables false
set_option linter.unusedSimpArgs false
set_option maxHeartbeats 8000000
namespace Go.Proofs.YtlphlodailailaaGreat
open Go.Vw
attribute [local irreducible] awp awpL awpR

theorem leQRs (p : List Rat) {ds es : List D} (h : LeT ds es) : LeT (qsD p :: ds) (rsD (p.map rq) :: es) := LeT.cons (leQR p) h
theorem rqs_ok {p : List Rat} {k : Nat} (h : ∀ x ∈ p, okQ k x) : ∀ r ∈ p.map rq, RatOk r k := fun r hr => by
  obtain ⟨q, hq, rfl⟩ := List.mem_map.1 hr
  exact ok_rq (h q hq)
theorem HtP.gt {h : Nat} {p : List Rat} (H : HtP h p) : 1 < h := by
  obtain ⟨c, P, c0, hc, _⟩ := H
  have : 0 < ln c.natAbs := by
    rcases Nat.eq_zero_or_pos (ln c.natAbs) with e | e
    · exact absurd (limbs_eq_nil.1 (List.length_eq_zero_iff.1 e)) (by omega)
    · exact e
  omega
theorem polynomial_DivQ (p d : List Rat) {h l : Nat} (hp : Tr p) (hd : Tr d) (d0 : d ≠ []) (lp : p.length ≤ 100) (ld : d.length ≤ 100) (H : HtP h p) (L : HtP l d) (hb : h + (p.length + 1 - d.length) * l + l ≤ 2000000) : Ret Tryz.prog 32 [qsD p, qsD d] (· = .tup [qsD (divP p d).1, qsD (divP p d).2, .int .i64 0]) := by
  have h1 := HtP.gt H
  obtain ⟨K, hK⟩ : ∃ K, K = h + (p.length + 1 - d.length) * l + l := ⟨_, rfl⟩
  have hv := polynomial_Div (p.map rq) (d.map rq) K (fun r => ∃ k, k + (r.length + 1 - d.length) ≤ p.length + 1 - d.length ∧ HtP (h + k * l) r) (by rw [List.length_map]; exact lp) (by rw [List.length_map]; exact ld) (rqs_ok fun x hx => (H.okL x hx).mono (by omega)) (rqs_ok fun x hx => (L.okL x hx).mono (by omega)) (by rw [map_rv_rqL, trim_of hd]; exact d0)
    (by rw [map_rv_rqL, trim_of hp]; exact ⟨0, by omega, H.mono (by omega)⟩)
    (by
      rw [map_rv_rqL, trim_of hd]
      rintro r ⟨k, hk, hr⟩ tr hle
      refine ⟨k + 1, ?_, ?_⟩
      · have := stepRP_len tr hd d0 hle; omega
      · have := hr.stepRP L (lead_ne hd d0)
        refine this.mono ?_
        rw [Nat.add_mul, Nat.one_mul]; omega)
    (by
      rintro r ⟨k, hk, hr⟩ x hx
      refine (hr.okL x hx).mono ?_
      have := Nat.mul_le_mul_right l (show k ≤ p.length + 1 - d.length by omega)
      omega) (by omega) (by omega)
  rw [map_rv_rqL, map_rv_rqL, trim_of hp, trim_of hd] at hv
  exact hv.args (leQRs p (leQRs d (LeT.refl _)))
theorem polynomial_scaledQ (p : List Rat) (y : Rat) (hp : p.length ≤ 500) (kp : ∀ x ∈ p, okQ 5000000 x) (ky : okQ 5000000 y) (h0 : y ≠ 0) : Ret Tryz.prog 61 [qsD p, qD y] (· = qsD (smul (1 / y) p)) := by
  have h := polynomial_scaled (p.map rq) (rq y) (by rw [List.length_map]; exact hp) (rqs_ok kp) (ok_rq ky) (by rw [rv_rq]; exact h0)
  rw [map_rv_rqL, rv_rq] at h
  exact h.args (leQRs p (LeT.refl _))
theorem polynomial_negativeQ (p : List Rat) (hT : Tr p) (hp : p.length ≤ 500) (kp : ∀ x ∈ p, okQ 5000000 x) : Ret Tryz.prog 108 [qsD p] (· = qsD (negC p)) := by
  have h := polynomial_Sub [] (p.map rq) (by decide) (by rw [List.length_map]; exact hp) (fun r hr => by simp at hr) (rqs_ok kp)
  rw [map_rv_rqL, List.map_nil, show subC [] p = negC p from rfl, trim_of (tr_neg hT)] at h
  have h2 : Ret Tryz.prog 39 [.nils, qsD p] (· = qsD (negC p)) := h.args (LeT.cons LeD.nils (leQRs p (LeT.refl _)))
  generalize negC p = r at *
  clear kp hT h
  refine ret_of_awp tab Tryz.func108 rfl rfl (Nat.le_of_ble_eq_true rfl) (fun w0 F0 => ?_)
  repeat' (first
    | (show awpL _ _ _ _ _; first | refine goL ?_ | refine cl 39 tt rfl rfl rfl (hr := h2) (k := ?_) | (refine gdLG ?_ ?_ <;> intro _ <;> try (exfalso; omega)))
    | (show awp _ _ _ _; first | refine goA ?_ | (refine cdG ?_ ?_ <;> intro _ <;> try (exfalso; omega)))
    | (show andThen _ _ _ _; refine goN ?_)
    | (show inBlock _ _ _ _; refine goB ?_)
    | (show retPost _ _ _ _ _; refine finG ?_))
  rfl
theorem polynomial_sturm (fid : FuncId) (ch : List Rat → List Rat) (J : List Rat → List Rat → Prop) (P : List R3) (hP : P.length ≤ 100) (kP : ∀ r ∈ P, RatOk r 5000000) (hJ0 : J (trimP (P.map rv)) (derP (P.map rv)))
    (hJ : ∀ a b, J a b → a ≠ [] → b ≠ [] → (∃ q, Ret Tryz.prog 32 [qsD a, qsD b] (· = .tup [qsD q, qsD (remP a b), .int .i64 0])) ∧ Ret Tryz.prog 108 [qsD (remP a b)] (· = qsD (negC (remP a b))) ∧ Ret Tryz.prog fid [qsD (negC (remP a b))] (· = qsD (ch (negC (remP a b)))) ∧ J b (ch (negC (remP a b))) ∧ (ch (negC (remP a b))).length < b.length) (hl : ∀ a b, J a b → a.length ≤ 100 ∧ b.length ≤ 100) : Ret Tryz.prog 64 [rsD P, .fn fid []] (· = qssD (chainL ch (P.length + 1) (trimP (P.map rv)) (derP (P.map rv)))) := by
  have t1 := polynomial_Trim P (by omega) (fun r hr => (kP r hr).up (by decide))
  have t2 := polynomial_Derivative P (by omega) kP
  have hn : (derP (P.map rv)).length + 1 ≤ P.length + 1 := by
    have h1 := trim_len (derC (P.map rv))
    rw [derC_len, List.length_map] at h1
    show (trimP (derC (P.map rv))).length + 1 ≤ _
    omega
  obtain ⟨n, hn0⟩ : ∃ n, P.length + 1 = n := ⟨_, rfl⟩
  rw [hn0] at hn ⊢
  generalize trimP (P.map rv) = a0 at *
  generalize derP (P.map rv) = b0 at *
  obtain ⟨R, hR⟩ : ∃ R, chainL ch n a0 b0 = R := ⟨_, rfl⟩
  rw [hR]
  clear kP
  refine ret_of_awp tab Tryz.func64 rfl rfl (Nat.le_of_ble_eq_true rfl) (fun w0 F0 => ?_)
  repeat' (first
    | (show awpL _ _ _ _ _; first | refine goL ?_ | refine cl 60 tt rfl rfl rfl (hr := t1) (k := ?_) | refine cl 107 tt rfl rfl rfl (hr := t2) (k := ?_) | (refine gdLG ?_ ?_ <;> intro _ <;> try (exfalso; omega)))
    | (show awp _ _ _ _; first | refine goA ?_ | (refine cdG ?_ ?_ <;> intro _ <;> try (exfalso; omega)))
    | (show andThen _ _ _ _; refine goN ?_)
    | (show inBlock _ _ _ _; refine goB ?_)
    | (show retPost _ _ _ _ _; refine finG ?_))
  refine awp_adopt 5 500 23 1 eQ [] rfl ?_
  refine awp_loop1 (fun (x : List (List Rat) × List Rat × List Rat × Nat) => ([(1, .d (.fn fid [])), (5, .own 500 0 x.1.length 23 1), (6, .d (qsD x.2.1)), (7, .d (qsD x.2.2.1))], [(500, .data 23 1 eQ [] x.1)])) (fun x => J x.2.1 x.2.2.1 ∧ x.2.2.1.length + 1 ≤ x.2.2.2 ∧ x.1 ++ chainL ch x.2.2.2 x.2.1 x.2.2.1 = R ∧ x.1.length + x.2.2.2 ≤ 1000) (fun x => x.2.2.2) ([], a0, b0, n) ⟨hJ0, hn, hR, by show 0 + n ≤ 1000; omega⟩ ⟨rfl, rfl, rfl, rfl, rfl⟩ ⟨rfl, trivial⟩ (fun x hx => ?_)
  obtain ⟨acc, a, b, k⟩ := x
  obtain ⟨i1, i2, i3, i4⟩ := hx
  dsimp only at i1 i2 i3 i4 ⊢
  obtain ⟨l1, l2⟩ := hl a b i1
  obtain ⟨k, rfl⟩ : ∃ j, k = j + 1 := ⟨k - 1, by omega⟩
  rw [chainL] at i3
  by_cases ha : a = []
  · rw [if_pos ha, List.append_nil] at i3
    have h0 : a.length = 0 := by rw [ha]; rfl
    rw [← i3]
    clear hJ hJ0 hl t1 t2
    repeat' (first
      | (show awpL _ _ _ _ _; first | refine goL ?_ | (refine gdLG ?_ ?_ <;> intro _ <;> try (exfalso; omega)))
      | (show awp _ _ _ _; first | refine goA ?_ | (refine cdG ?_ ?_ <;> intro _ <;> try (exfalso; omega)))
      | (show andThen _ _ _ _; refine goN ?_)
      | (show inBlock _ _ _ _; refine goB ?_)
      | (show retPost _ _ _ _ _; refine finG ?_))
    rfl
  · rw [if_neg ha] at i3
    have h0 := ne_len ha
    by_cases hb : b = []
    · rw [if_pos hb] at i3
      have h1 : b.length = 0 := by rw [hb]; rfl
      rw [← i3]
      clear hJ hJ0 hl t1 t2
      repeat' (first
        | (show awpL _ _ _ _ _; first | refine goL ?_ | (refine gdLG ?_ ?_ <;> intro _ <;> try (exfalso; omega)))
        | (show awp _ _ _ _; first | refine goA ?_ | (refine cdG ?_ ?_ <;> intro _ <;> try (exfalso; omega)))
        | (show andThen _ _ _ _; refine goN ?_)
        | (show inBlock _ _ _ _; refine goB ?_)
        | (show retPost _ _ _ _ _; refine finG ?_))
      rfl
    · rw [if_neg hb] at i3
      have h1 := ne_len hb
      obtain ⟨⟨q, d1⟩, d2, d3, d4, d5⟩ := hJ a b i1 ha hb
      generalize ch (negC (remP a b)) = c at *
      generalize negC (remP a b) = y at *
      generalize remP a b = z at *
      clear hJ hJ0 hl t1 t2
      repeat' (first
        | (show awpL _ _ _ _ _; first | refine goL ?_ | refine cl 32 tt rfl rfl rfl (hr := d1) (k := ?_) | refine cl 108 tt rfl rfl rfl (hr := d2) (k := ?_) | refine cl fid (Nat.beq_refl fid) rfl rfl rfl (hr := d3) (k := ?_) | (refine gdLG ?_ ?_ <;> intro _ <;> try (exfalso; omega)))
        | (show awp _ _ _ _; first | refine goA ?_ | (refine cdG ?_ ?_ <;> intro _ <;> try (exfalso; omega)))
        | (show andThen _ _ _ _; refine goN ?_)
        | (show inBlock _ _ _ _; refine goB ?_)
        | (show retPost _ _ _ _ _; refine finG ?_))
      exact ⟨(acc ++ [a], b, c, k), ⟨d4, by show c.length + 1 ≤ k; omega, by rw [← i3]; show (acc ++ [a]) ++ _ = _; simp only [List.append_assoc, List.singleton_append], by show (acc ++ [a]).length + k ≤ 1000; rw [List.length_append, List.length_singleton]; omega⟩, by show k < k + 1; omega, ⟨rfl, ownEq (by rw [List.length_append]), rfl, rfl, rfl⟩, rfl, trivial⟩
end Go.Proofs.YtlphlodailailaaGreat
