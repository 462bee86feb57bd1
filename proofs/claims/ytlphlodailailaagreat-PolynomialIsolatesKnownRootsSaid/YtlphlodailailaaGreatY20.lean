/-
  A statement of the seat: what its contract is, and the claim. Conditions: as each says.
-/
import Derived.Test.YtlphlodailailaaGreatS64
import Derived.Test.YtlphlodailailaaGreatY19
import Derived.Test.YtlphlodailailaaGreatA10
set_option linter.unusedVariables false
set_option linter.unusedSimpArgs false
set_option maxHeartbeats 8000000
namespace Go.Proofs.YtlphlodailailaaGreat
open Go.Vw
attribute [local irreducible] awp awpL awpR

theorem ref05_DivQ (p d : List Rat) {h l : Nat} (hp : Tr p) (hd : Tr d) (d0 : d ≠ []) (lp : p.length ≤ 100) (ld : d.length ≤ 100) (H : HtP h p) (L : HtP l d) (hb : h + (p.length + 1 - d.length) * l + l ≤ 2000000) : Ret Tryz.prog 62 [qsD p, qsD d] (· = .tup [qsD (divP p d).1, qsD (divP p d).2, .int .i64 0]) := by
  have hv := ref05_Div (p.map rq) (d.map rq) (h := h) (l := l) (by rw [map_rv_rqL, trim_of hd]; exact d0) (by rw [List.length_map]; exact lp) (rqs_ok fun x hx => (H.okL x hx).mono (by omega)) (by rw [List.length_map]; exact ld) (rqs_ok fun x hx => (L.okL x hx).mono (by omega)) (by rw [map_rv_rqL, trim_of hp]; exact H) (by rw [map_rv_rqL, trim_of hd]; exact L) (by rw [map_rv_rqL, map_rv_rqL, trim_of hp, trim_of hd]; exact hb)
  rw [map_rv_rqL, map_rv_rqL, trim_of hp, trim_of hd] at hv
  exact hv.args (leQRs p (leQRs d (LeT.refl _)))
theorem gcdP_step2 {p q : List Rat} (hp : Tr p) (hq : Tr q) (q0 : q ≠ []) : gcdP p q = gcdP q (monicP (remP p q)) := by
  by_cases r0 : remP p q = []
  · have := gcdP_step hp hq q0 (a := 1) (b := 1) (by decide) (by decide)
    rw [smul_one, smul_one, r0] at this
    rw [this, r0]; rfl
  · have := gcdP_step hp hq q0 (a := 1) (b := 1 / lead (remP p q)) (by decide) (inv_lead (tr_rem hp hq q0) r0).1
    rw [smul_one] at this
    exact this
theorem ref05_Gcd (a b : List R3) (ha : a.length ≤ 99) (hb : b.length ≤ 99) (ka : ∀ r ∈ a, RatOk r 10000000) (kb : ∀ r ∈ b, RatOk r 10000000) (hJ : JG (trimP (a.map rv)) (trimP (b.map rv))) : Ret Tryz.prog 18 [rsD a, rsD b] (· = qsD (gcdP (trimP (a.map rv)) (trimP (b.map rv)))) := by
  have ta := ref05_Trim a (by omega) ka
  have tb := ref05_Trim b (by omega) kb
  have l1 := trim_len (a.map rv)
  have l2 := trim_len (b.map rv)
  rw [List.length_map] at l1 l2
  generalize trimP (a.map rv) = p0 at *
  generalize trimP (b.map rv) = q0 at *
  obtain ⟨G, hG⟩ : ∃ G, gcdP p0 q0 = G := ⟨_, rfl⟩
  rw [hG]
  clear ka kb
  refine ret_of_awp tab Tryz.func18 rfl rfl (Nat.le_of_ble_eq_true rfl) (fun w0 F0 => ?_)
  repeat' (first
    | (show awpL _ _ _ _ _; first | refine goL ?_ | refine cl 44 tt rfl rfl rfl (hr := ta) (k := ?_) | refine cl 44 tt rfl rfl rfl (hr := tb) (k := ?_) | (refine gdLG ?_ ?_ <;> intro _ <;> try (exfalso; omega)))
    | (show awp _ _ _ _; first | refine goA ?_ | (refine cdG ?_ ?_ <;> intro _ <;> try (exfalso; omega)))
    | (show andThen _ _ _ _; refine goN ?_)
    | (show inBlock _ _ _ _; refine goB ?_)
    | (show retPost _ _ _ _ _; refine finG ?_))
  refine awp_loop1 (fun (x : List Rat × List Rat) => ([(0, .d (qsD x.1)), (1, .d (qsD x.2))], [])) (fun x => JG x.1 x.2 ∧ gcdP x.1 x.2 = G ∧ x.1.length ≤ 100 ∧ x.2.length ≤ 100) (fun x => x.2.length) (p0, q0) ⟨hJ, hG, by show p0.length ≤ 100; omega, by show q0.length ≤ 100; omega⟩ ⟨rfl, rfl, rfl⟩ trivial (fun x hx => ?_)
  obtain ⟨p, q⟩ := x
  obtain ⟨i1, i2, i3, i4⟩ := hx
  dsimp only at i1 i2 i3 i4 ⊢
  have fitM : ∀ M n, (M + 1) * 3 ^ n ≤ Bud → M ≤ 2000000 := fun M n h => by
    have := Nat.mul_le_mul_left (M + 1) (show 1 ≤ 3 ^ n from Nat.pow_pos (by decide))
    unfold Bud at h
    omega
  by_cases hq : q = []
  · subst hq
    rw [gcdP_nil] at i2
    obtain ⟨M, m1, m2, m3⟩ := i1.fit
    have hM := fitM _ _ m3
    have s1 := ref05_monicQ p i1.tp (by omega) (fun x hx => (m1.okL x hx).mono (by omega))
    rw [i2] at s1
    have h0 : ([] : List Rat).length = 0 := rfl
    clear hJ ta tb fitM
    repeat' (first
      | (show awpL _ _ _ _ _; first | refine goL ?_ | refine cl 63 tt rfl rfl rfl (hr := s1) (k := ?_) | (refine gdLG ?_ ?_ <;> intro _ <;> try (exfalso; omega)))
      | (show awp _ _ _ _; first | refine goA ?_ | (refine cdG ?_ ?_ <;> intro _ <;> try (exfalso; omega)))
      | (show andThen _ _ _ _; refine goN ?_)
      | (show inBlock _ _ _ _; refine goB ?_)
      | (show retPost _ _ _ _ _; refine finG ?_))
    rfl
  · obtain ⟨M, m1, m2, m3, m4, m5, m6⟩ := i1.step2 hq
    have d1 := ref05_DivQ p q i1.tp i1.tq hq i3 i4 m1 m2 m3
    have hl := rem_len i1.tp i1.tq hq
    have s1 := ref05_monicQ (remP p q) (tr_rem i1.tp i1.tq hq) (by omega) (fun x hx => (m4.okL x hx).mono (by omega))
    have h1 := ne_len hq
    have st := gcdP_step2 i1.tp i1.tq hq
    rw [i2] at st
    have lm : (monicP (remP p q)).length = (remP p q).length := len_smul _ _
    rw [show (divP p q).2 = remP p q from rfl] at d1
    generalize (divP p q).1 = Z at *
    generalize monicP (remP p q) = m at *
    generalize remP p q = r at *
    clear hJ ta tb fitM m1 m2 m3 m4 m5
    repeat' (first
      | (show awpL _ _ _ _ _; first | refine goL ?_ | refine cl 62 tt rfl rfl rfl (hr := d1) (k := ?_) | refine cl 63 tt rfl rfl rfl (hr := s1) (k := ?_) | (refine gdLG ?_ ?_ <;> intro _ <;> try (exfalso; omega)))
      | (show awp _ _ _ _; first | refine goA ?_ | (refine cdG ?_ ?_ <;> intro _ <;> try (exfalso; omega)))
      | (show andThen _ _ _ _; refine goN ?_)
      | (show inBlock _ _ _ _; refine goB ?_)
      | (show retPost _ _ _ _ _; refine finG ?_))
    exact ⟨(q, m), ⟨m6, st.symm, i4, by show m.length ≤ 100; omega⟩, by show m.length < q.length; omega, ⟨rfl, rfl, rfl⟩, trivial⟩
end Go.Proofs.YtlphlodailailaaGreat
