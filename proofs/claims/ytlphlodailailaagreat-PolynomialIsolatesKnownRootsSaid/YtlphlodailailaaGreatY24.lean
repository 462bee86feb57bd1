/-
  A statement of the seat: what its contract is, and the claim. Conditions: as each says.
-/
import Derived.Test.YtlphlodailailaaGreatY23
import Derived.Test.YtlphlodailailaaGreatA10
set_option linter.unusedVariables false
set_option linter.unusedSimpArgs false
set_option maxHeartbeats 8000000
namespace Go.Proofs.YtlphlodailailaaGreat
open Go.Vw
attribute [local irreducible] awp awpL awpR

theorem absQ_pos {x : Rat} (h : x ≠ 0) : 0 < absQ x := by
  unfold absQ
  split <;> grind
theorem tri (x : Rat) : x < 0 ∨ x = 0 ∨ 0 < x := by
  rcases sg_cases x with ⟨h, _⟩ | ⟨h, _⟩ | ⟨h, _⟩
  · exact .inr (.inr h)
  · exact .inr (.inl h)
  · exact .inl h
theorem absQ_mul {c x : Rat} (hc : 0 < c) : absQ (c * x) = c * absQ x := by
  unfold absQ
  rcases tri x with h | h | h
  · have h1 : c * x < 0 := by
      have := Rat.mul_pos hc (show 0 < -x by grind)
      grind
    rw [if_pos h1, if_pos h]; grind
  · subst h; simp [Rat.mul_zero]
  · have h1 := Rat.mul_pos hc h
    rw [if_neg (by grind), if_neg (by grind)]
theorem smallP_smul {c : Rat} (hc : 0 < c) {p : List Rat} (hT : Tr p) : smallP (smul c p) = smallP p := by
  by_cases p0 : p = []
  · subst p0; rfl
  · have h0 := absQ_pos (lead_ne hT p0)
    unfold smallP
    rw [lead_smul, absQ_mul hc, smul_smul]
    congr 1
    have h1 : absQ (lead p) * (absQ (lead p))⁻¹ = 1 := Rat.mul_inv_cancel _ (by grind)
    have h2 : (c * absQ (lead p)) * (c * absQ (lead p))⁻¹ = 1 := Rat.mul_inv_cancel _ (by
      have := Rat.mul_pos hc h0
      grind)
    rw [Rat.div_def, Rat.div_def]
    generalize (c * absQ (lead p))⁻¹ = u at *
    generalize (absQ (lead p))⁻¹ = v at *
    generalize absQ (lead p) = y at *
    have e1 : u * c = u * c * (y * v) := by rw [h1, Rat.mul_one]
    have e2 : u * c * (y * v) = (c * y * u) * v := by grind
    rw [Rat.one_mul, Rat.one_mul, e1, e2, h2, Rat.one_mul]
inductive PosM : List (List Rat) → List (List Rat) → Prop
  | nil : PosM [] []
  | cons {c : Rat} {a : List Rat} {l l' : List (List Rat)} : 0 < c → PosM l l' → PosM (smul c a :: l) (a :: l')
theorem PosM.refl : ∀ l, PosM l l
  | [] => .nil
  | a :: l => by
    have := PosM.cons (c := 1) (a := a) (by decide) (PosM.refl l)
    rwa [smul_one] at this
theorem posM_chain : ∀ (n : Nat) {a b : List Rat} {α β : Rat}, Tr a → Tr b → 0 < α → 0 < β → PosM (chainL smallP n (smul α a) (smul β b)) (chainL smallP n a b)
  | 0, a, b, α, β, _, _, _, _ => .nil
  | n + 1, a, b, α, β, ta, tb, ha, hb => by
    rw [chainL, chainL]
    by_cases a0 : a = []
    · subst a0; rw [if_pos (show smul α ([] : List Rat) = [] from rfl), if_pos rfl]; exact .nil
    · rw [if_neg a0, if_neg (fun h => a0 (smul_eq_nil.1 h))]
      by_cases b0 : b = []
      · subst b0; rw [if_pos (show smul β ([] : List Rat) = [] from rfl), if_pos rfl]; exact .cons ha .nil
      · rw [if_neg b0, if_neg (fun h => b0 (smul_eq_nil.1 h))]
        refine .cons ha ?_
        have tr := tr_rem ta tb b0
        rw [remP_smul ta tb b0 (by grind) (by grind), show negC (smul α (remP a b)) = smul α (negC (remP a b)) from by unfold negC; rw [smul_smul, smul_smul, Rat.mul_comm], smallP_smul ha (tr_neg tr)]
        have := posM_chain n (a := b) (b := smallP (negC (remP a b))) (α := β) (β := 1) tb (chOk_small.tr _ (tr_neg tr)) hb (by decide)
        rwa [smul_one] at this
theorem sgQ_mul {c y : Rat} (hc : 0 < c) : sgQ (c * y) = sgQ y := by
  rcases tri y with h | h | h
  · have h1 : c * y < 0 := by
      have := Rat.mul_pos hc (show 0 < -y by grind)
      grind
    rw [sg_neg h, sg_neg h1]
  · subst h; rw [Rat.mul_zero]
  · rw [sg_pos h, sg_pos (Rat.mul_pos hc h)]
theorem posM_sg {l l' : List (List Rat)} (h : PosM l l') (x : Rat) : (l.map fun f => sgQ (evalP f x)) = l'.map fun f => sgQ (evalP f x) := by
  induction h with
  | nil => rfl
  | cons hc _ ih => rw [List.map_cons, List.map_cons, ih, eval_smul, sgQ_mul hc]
theorem vrs_tame {Q E : List Rat} (n : Nat) (tQ : Tr Q) (tE : Tr E) (x : Rat) : vrsF (chainL smallP n (smallP Q) (smallP E)) x = vrsF (chainL smallP n Q E) x := by
  unfold vrsF
  have key : PosM (chainL smallP n (smallP Q) (smallP E)) (chainL smallP n Q E) := by
    have pos : ∀ p : List Rat, Tr p → ∃ c, 0 < c ∧ smallP p = smul c p := fun p t => by
      by_cases p0 : p = []
      · subst p0; exact ⟨1, by decide, rfl⟩
      · have h0 := absQ_pos (lead_ne t p0)
        refine ⟨1 / absQ (lead p), ?_, rfl⟩
        rw [Rat.div_def, Rat.one_mul]
        exact Rat.inv_pos.2 h0
    obtain ⟨c, hc, e1⟩ := pos Q tQ
    obtain ⟨d, hd, e2⟩ := pos E tE
    rw [e1, e2]
    exact posM_chain n tQ tE hc hd
  rw [posM_sg key]
theorem ref05_Simple (p : List Rat) (hT : Tr p) (hp : p.length ≤ 99) (kp : ∀ x ∈ p, okQ 5000000 x) (hc : CtrOk p) : Ret Tryz.prog 71 [qsD p] (· = qsD (ctrQ p)) := by
  have d1 := ref05_Derivative (p.map rq) (by rw [List.length_map]; omega) (rqs_ok kp)
  rw [map_rv_rqL] at d1
  have d1 := d1.args (leQRs p (LeT.refl _))
  have hdl : (derP p).length ≤ 99 := by
    have h1 := trim_len (derC p)
    rw [derC_len] at h1
    show (trimP (derC p)).length ≤ 99
    omega
  obtain ⟨M, m1, m2, m3⟩ := hc.jg.fit
  have hM : M ≤ 2000000 := by
    have := Nat.mul_le_mul_left (M + 1) (show 1 ≤ 3 ^ (if (derP p).length < p.length then p.length else (derP p).length + 1) from Nat.pow_pos (by decide))
    unfold Bud at m3
    omega
  have g1 := ref05_Gcd (p.map rq) ((derP p).map rq) (by rw [List.length_map]; exact hp) (by rw [List.length_map]; exact hdl) (rqs_ok fun x hx => (kp x hx).mono (by decide)) (rqs_ok fun x hx => (m2.okL x hx).mono (by omega)) (by rw [map_rv_rqL, map_rv_rqL, trim_of hT, show trimP (derP p) = derP p from trim_trim _]; exact hc.jg)
  rw [map_rv_rqL, map_rv_rqL, trim_of hT, show trimP (derP p) = derP p from trim_trim _] at g1
  have g2 := g1.args (leQRs p (leQRs (derP p) (LeT.refl _)))
  obtain ⟨h, l, f1, f2, f3⟩ := hc.fit1
  have v1 := ref05_DivQ p (gcdP p (derP p)) hT hc.tg hc.g0 (by omega) (by have := hc.gl; omega) f1 f2 f3
  rw [show (divP p (gcdP p (derP p))).1 = ctrQ p from rfl] at v1
  generalize ctrQ p = Q at *
  generalize (divP p (gcdP p (derP p))).2 = Z at *
  generalize gcdP p (derP p) = G at *
  generalize derP p = E at *
  clear hc kp m1 m2 m3 g1 f1 f2 f3
  refine ret_of_awp tab Tryz.func71 rfl rfl (Nat.le_of_ble_eq_true rfl) (fun w0 F0 => ?_)
  repeat' (first
    | (show awpL _ _ _ _ _; first | refine goL ?_ | refine cl 66 tt rfl rfl rfl (hr := d1) (k := ?_) | refine cl 18 tt rfl rfl rfl (hr := g2) (k := ?_) | refine cl 62 tt rfl rfl rfl (hr := v1) (k := ?_) | (refine gdLG ?_ ?_ <;> intro _ <;> try (exfalso; omega)))
    | (show awp _ _ _ _; first | refine goA ?_ | (refine cdG ?_ ?_ <;> intro _ <;> try (exfalso; omega)))
    | (show andThen _ _ _ _; refine goN ?_)
    | (show inBlock _ _ _ _; refine goB ?_)
    | (show retPost _ _ _ _ _; refine finG ?_))
  rfl
end Go.Proofs.YtlphlodailailaaGreat
