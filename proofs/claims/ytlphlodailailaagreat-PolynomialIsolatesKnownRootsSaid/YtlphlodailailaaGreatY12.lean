/-
  A statement of the seat: what its contract is, and the claim. Conditions: as each says.
-/
import Derived.Test.YtlphlodailailaaGreatY11
import Derived.Test.YtlphlodailailaaGreatA08
import Derived.Test.YtlphlodailailaaGreatA10
set_option linter.unusedVariables false
set_option linter.unusedSimpArgs false
set_option maxHeartbeats 8000000
namespace Go.Proofs.YtlphlodailailaaGreat
open Go.Vw
attribute [local irreducible] awp awpL awpR

theorem derP_trim (p : List Rat) : derP (trimP p) = derP p := trim_ext fun i => by rw [cf_der, cf_der, cf_trim]
def ctrQ (p : List Rat) : List Rat := (divP p (gcdP p (derP p))).1
def ctr (p : List Rat) : List (List Rat) := chainL smallP ((ctrQ p).length + 1) (ctrQ p) (derP (ctrQ p))
structure CtrOk (p : List Rat) : Prop where
  g0 : gcdP p (derP p) ≠ []
  tg : Tr (gcdP p (derP p))
  jg : JG p (derP p)
  gl : (gcdP p (derP p)).length ≤ 98
  fit1 : ∃ h l, HtP h p ∧ HtP l (gcdP p (derP p)) ∧ h + (p.length + 1 - (gcdP p (derP p)).length) * l + l ≤ 2000000
  ql : (ctrQ p).length ≤ 98
  fit2 : ∃ M, JS (ctrQ p) (derP (ctrQ p)) M
theorem polynomial_newCounter (P : List R3) (hP : P.length ≤ 99) (kP : ∀ r ∈ P, RatOk r 5000000) (hc : CtrOk (trimP (P.map rv))) : Ret Tryz.prog 68 [rsD P] (· = qssD (ctr (trimP (P.map rv)))) := by
  have d1 := polynomial_Derivative P (by omega) kP
  rw [← derP_trim] at d1
  have hdl : (derP (trimP (P.map rv))).length ≤ 99 := by
    have h1 := trim_len (derC (trimP (P.map rv)))
    have h2 := trim_len (P.map rv)
    rw [derC_len] at h1
    rw [List.length_map] at h2
    show (trimP (derC _)).length ≤ 99
    omega
  obtain ⟨M, m1, m2, m3⟩ := hc.jg.fit
  have hM : M ≤ 2000000 := by
    have := Nat.mul_le_mul_left (M + 1) (show 1 ≤ 3 ^ (if (derP (trimP (P.map rv))).length < (trimP (P.map rv)).length then (trimP (P.map rv)).length else (derP (trimP (P.map rv))).length + 1) from Nat.pow_pos (by decide))
    unfold Bud at m3
    omega
  have g1 := polynomial_GcdJ P ((derP (trimP (P.map rv))).map rq) hP (by rw [List.length_map]; exact hdl) (fun r hr => (kP r hr).up (by decide)) (rqs_ok fun x hx => (m2.okL x hx).mono (by omega)) (by rw [map_rv_rqL, show trimP (derP (trimP (P.map rv))) = derP (trimP (P.map rv)) from trim_trim _]; exact hc.jg)
  rw [map_rv_rqL, show trimP (derP (trimP (P.map rv))) = derP (trimP (P.map rv)) from trim_trim _] at g1
  have g2 : Ret Tryz.prog 17 [rsD P, qsD (derP (trimP (P.map rv)))] (· = qsD (gcdP (trimP (P.map rv)) (derP (trimP (P.map rv))))) := g1.args (LeT.cons (LeD.refl _) (leQRs _ (LeT.refl _)))
  obtain ⟨h, l, f1, f2, f3⟩ := hc.fit1
  have v1 := polynomial_DivR P (gcdP (trimP (P.map rv)) (derP (trimP (P.map rv)))) hc.tg hc.g0 (by omega) (fun r hr => (kP r hr).up (by decide)) (by have := hc.gl; omega) f1 f2 f3
  obtain ⟨M2, f4⟩ := hc.fit2
  have ql := hc.ql
  have hM2 : M2 ≤ 2000000 := by
    have b := f4.bud
    have := Nat.mul_le_mul_left (M2 + 1) (show 1 ≤ 3 ^ (ctrQ (trimP (P.map rv))).length from Nat.pow_pos (by decide))
    unfold Bud at b
    omega
  have s1 := polynomial_sturmJ 109 smallP chOk_small (fun p t pl ok => polynomial_small p (by omega) ok t) ((ctrQ (trimP (P.map rv))).map rq) (by rw [List.length_map]; omega) (rqs_ok fun x hx => (f4.ha.okL x hx).mono (by omega)) M2 (by rw [map_rv_rqL, trim_of f4.ta]; exact f4)
  rw [map_rv_rqL, trim_of f4.ta, List.length_map] at s1
  have s2 : Ret Tryz.prog 64 [qsD (ctrQ (trimP (P.map rv))), .fn 109 []] (· = qssD (ctr (trimP (P.map rv)))) := s1.args (leQRs _ (LeT.refl _))
  rw [show (divP (trimP (P.map rv)) (gcdP (trimP (P.map rv)) (derP (trimP (P.map rv))))).1 = ctrQ (trimP (P.map rv)) from rfl] at v1
  clear hc f1 f2 f3 f4 m1 m2 m3 g1 s1 kP ql hdl
  generalize ctr (trimP (P.map rv)) = C at *
  generalize ctrQ (trimP (P.map rv)) = Q at *
  generalize (divP (trimP (P.map rv)) (gcdP (trimP (P.map rv)) (derP (trimP (P.map rv))))).2 = Z at *
  generalize gcdP (trimP (P.map rv)) (derP (trimP (P.map rv))) = G at *
  generalize derP (trimP (P.map rv)) = E at *
  refine ret_of_awp tab Tryz.func68 rfl rfl (Nat.le_of_ble_eq_true rfl) (fun w0 F0 => ?_)
  repeat' (first
    | (show awpL _ _ _ _ _; first | refine goL ?_ | refine cl 107 tt rfl rfl rfl (hr := d1) (k := ?_) | refine cl 17 tt rfl rfl rfl (hr := g2) (k := ?_) | refine cl 32 tt rfl rfl rfl (hr := v1) (k := ?_) | refine cl 64 tt rfl rfl rfl (hr := s2) (k := ?_) | (refine gdLG ?_ ?_ <;> intro _ <;> try (exfalso; omega)))
    | (show awp _ _ _ _; first | refine goA ?_ | (refine cdG ?_ ?_ <;> intro _ <;> try (exfalso; omega)))
    | (show andThen _ _ _ _; refine goN ?_)
    | (show inBlock _ _ _ _; refine goB ?_)
    | (show retPost _ _ _ _ _; refine finG ?_))
  rfl
def vrsF (F : List (List Rat)) (x : Rat) : Int := chg 0 (F.map fun f => sgQ (evalP f x))
def cntF (F : List (List Rat)) (lo hi : Rat) : Int := if lo < hi then vrsF F lo - vrsF F hi else 0
theorem chg_bd : ∀ (l : List Int) (a : Int), 0 ≤ chg a l ∧ chg a l ≤ l.length
  | [], _ => ⟨Int.le_refl _, Int.le_refl _⟩
  | s :: l, a => by
    rw [chg]
    have := chg_bd l (if s ≠ 0 then s else a)
    simp only [List.length_cons]
    split <;> omega
theorem counter_count (F : List (List Rat)) (lo hi : R3) (hF : F.length ≤ 1000) (hf : ∀ f ∈ F, f.length ≤ 13 ∧ ∃ M, Fit f.length f M) (kl : RatOk lo 200000) (kh : RatOk hi 200000) : Ret Tryz.prog 69 [qssD F, rD lo, rD hi] (· = .int .i64 (cntF F (rv lo) (rv hi))) := by
  have gF : ∀ i, i < F.length → F.getD i [] ∈ F := fun i hi => by
    rw [List.getD_eq_getElem?_getD, List.getElem?_eq_getElem hi]; exact List.getElem_mem hi
  have ch : ∀ x, RatOk x 200000 → Ret Tryz.prog 110 [qssD F, rD x] (· = .int .i64 (vrsF F (rv x))) := fun x hx => counter_changes F x hF fun i hi => by
    obtain ⟨h1, M, h2⟩ := hf _ (gF i hi)
    exact polynomial_EvalF _ x h2 h1 hx
  have c1 := ch lo kl
  have c2 := ch hi kh
  have cm := rational_Compare lo hi (kl.up (by decide)) (kh.up (by decide))
  have b1 : 0 ≤ vrsF F (rv lo) ∧ vrsF F (rv lo) ≤ 1000 := by
    have := chg_bd (F.map fun f => sgQ (evalP f (rv lo))) 0
    rw [List.length_map] at this
    unfold vrsF; omega
  have b2 : 0 ≤ vrsF F (rv hi) ∧ vrsF F (rv hi) ≤ 1000 := by
    have := chg_bd (F.map fun f => sgQ (evalP f (rv hi))) 0
    rw [List.length_map] at this
    unfold vrsF; omega
  unfold cntF
  unfold cmpQ at cm
  generalize vrsF F (rv lo) = n1 at *
  generalize vrsF F (rv hi) = n2 at *
  clear ch hf gF
  by_cases h : rv lo < rv hi
  · rw [if_pos h]
    rw [if_pos h] at cm
    refine ret_of_awp tab Tryz.func69 rfl rfl (Nat.le_of_ble_eq_true rfl) (fun w0 F0 => ?_)
    repeat' (first
      | (show awpL _ _ _ _ _; first | refine goL ?_ | refine cl 95 tt rfl rfl rfl (hr := cm) (k := ?_) | refine cl 110 tt rfl rfl rfl (hr := c1) (k := ?_) | refine cl 110 tt rfl rfl rfl (hr := c2) (k := ?_) | (refine gdLG ?_ ?_ <;> intro _ <;> try (exfalso; omega)))
      | (show awp _ _ _ _; first | refine goA ?_ | refine rg 3 5 ?_ | (refine cdG ?_ ?_ <;> intro _ <;> try (exfalso; omega)))
      | (show andThen _ _ _ _; refine goN ?_)
      | (show inBlock _ _ _ _; refine goB ?_)
      | (show awpR _ _ _ _ _ _ _; first | refine goR ?_ | refine clR 95 tt rfl rfl rfl (hr := cm) (k := ?_) | refine clR 110 tt rfl rfl rfl (hr := c1) (k := ?_) | refine clR 110 tt rfl rfl rfl (hr := c2) (k := ?_) | (refine gdRG ?_ ?_ <;> intro _ <;> try (exfalso; omega)))
      | (show retPost _ _ _ _ _; refine finG ?_))
    rfl
  · rw [if_neg h]
    rw [if_neg h] at cm
    obtain ⟨z, hz⟩ : ∃ z : Int, z = (if rv hi < rv lo then 1 else 0) := ⟨_, rfl⟩
    rw [← hz] at cm
    have z0 : 0 ≤ z := by rw [hz]; split <;> decide
    clear hz
    refine ret_of_awp tab Tryz.func69 rfl rfl (Nat.le_of_ble_eq_true rfl) (fun w0 F0 => ?_)
    repeat' (first
      | (show awpL _ _ _ _ _; first | refine goL ?_ | refine cl 95 tt rfl rfl rfl (hr := cm) (k := ?_) | refine cl 110 tt rfl rfl rfl (hr := c1) (k := ?_) | refine cl 110 tt rfl rfl rfl (hr := c2) (k := ?_) | (refine gdLG ?_ ?_ <;> intro _ <;> try (exfalso; omega)))
      | (show awp _ _ _ _; first | refine goA ?_ | refine rg 3 5 ?_ | (refine cdG ?_ ?_ <;> intro _ <;> try (exfalso; omega)))
      | (show andThen _ _ _ _; refine goN ?_)
      | (show inBlock _ _ _ _; refine goB ?_)
      | (show awpR _ _ _ _ _ _ _; first | refine goR ?_ | refine clR 95 tt rfl rfl rfl (hr := cm) (k := ?_) | refine clR 110 tt rfl rfl rfl (hr := c1) (k := ?_) | refine clR 110 tt rfl rfl rfl (hr := c2) (k := ?_) | (refine gdRG ?_ ?_ <;> intro _ <;> try (exfalso; omega)))
      | (show retPost _ _ _ _ _; refine finG ?_))
    rfl
theorem polynomial_Count (P : List R3) (lo hi : R3) (hP : P.length ≤ 99) (kP : ∀ r ∈ P, RatOk r 5000000) (hc : trimP (P.map rv) ≠ [] → CtrOk (trimP (P.map rv))) (kl : RatOk lo 200000) (kh : RatOk hi 200000) : Ret Tryz.prog 22 [rsD P, rD lo, rD hi] (· = .int .i64 (if trimP (P.map rv) = [] then -1 else cntF (ctr (trimP (P.map rv))) (rv lo) (rv hi))) := by
  have t1 := polynomial_Trim P (by omega) (fun r hr => (kP r hr).up (by decide))
  have l1 := trim_len (P.map rv)
  rw [List.length_map] at l1
  by_cases h0 : trimP (P.map rv) = []
  · rw [if_pos h0]
    have hl : (trimP (P.map rv)).length = 0 := by rw [h0]; rfl
    generalize trimP (P.map rv) = p at *
    clear kP hc
    refine ret_of_awp tab Tryz.func22 rfl rfl (Nat.le_of_ble_eq_true rfl) (fun w0 F0 => ?_)
    repeat' (first
      | (show awpL _ _ _ _ _; first | refine goL ?_ | refine cl 60 tt rfl rfl rfl (hr := t1) (k := ?_) | (refine gdLG ?_ ?_ <;> intro _ <;> try (exfalso; omega)))
      | (show awp _ _ _ _; first | refine goA ?_ | refine rg 3 4 ?_ | (refine cdG ?_ ?_ <;> intro _ <;> try (exfalso; omega)))
      | (show andThen _ _ _ _; refine goN ?_)
      | (show inBlock _ _ _ _; refine goB ?_)
      | (show awpR _ _ _ _ _ _ _; first | refine goR ?_ | refine clR 60 tt rfl rfl rfl (hr := t1) (k := ?_) | (refine gdRG ?_ ?_ <;> intro _ <;> try (exfalso; omega)))
      | (show retPost _ _ _ _ _; refine finG ?_))
    rfl
  · rw [if_neg h0]
    have hl := ne_len h0
    have hk := hc h0
    have n1 := polynomial_newCounter P hP kP hk
    obtain ⟨M, f⟩ := hk.fit2
    have hfit := f.chain chOk_small ((ctrQ (trimP (P.map rv))).length + 1)
    have cln := chain_len smallP ((ctrQ (trimP (P.map rv))).length + 1) (ctrQ (trimP (P.map rv))) (derP (ctrQ (trimP (P.map rv))))
    have ql := hk.ql
    have c1 := counter_count (ctr (trimP (P.map rv))) lo hi (by unfold ctr; omega) (fun g hg => by
      obtain ⟨g1, M', g2⟩ := hfit g hg
      refine ⟨?_, M', g2⟩
      have b := g2.2
      have b2 := len_lt_pow3 g.length
      by_cases g0 : g.length ≤ 13
      · omega
      · exfalso
        have b3 := Nat.pow_le_pow_right (show 0 < 3 by decide) (show 14 ≤ g.length by omega)
        have b4 := Nat.mul_le_mul_right (3 ^ g.length) (show 1 ≤ M' + 1 by omega)
        have b5 : (3 : Nat) ^ 14 = 4782969 := by decide
        unfold Bud at b
        omega) kl kh
    generalize cntF (ctr (trimP (P.map rv))) (rv lo) (rv hi) = v at *
    generalize ctr (trimP (P.map rv)) = C at *
    generalize trimP (P.map rv) = p at *
    clear kP hc hk f hfit
    refine ret_of_awp tab Tryz.func22 rfl rfl (Nat.le_of_ble_eq_true rfl) (fun w0 F0 => ?_)
    repeat' (first
      | (show awpL _ _ _ _ _; first | refine goL ?_ | refine cl 60 tt rfl rfl rfl (hr := t1) (k := ?_) | refine cl 68 tt rfl rfl rfl (hr := n1) (k := ?_) | refine cl 69 tt rfl rfl rfl (hr := c1) (k := ?_) | (refine gdLG ?_ ?_ <;> intro _ <;> try (exfalso; omega)))
      | (show awp _ _ _ _; first | refine goA ?_ | refine rg 3 4 ?_ | (refine cdG ?_ ?_ <;> intro _ <;> try (exfalso; omega)))
      | (show andThen _ _ _ _; refine goN ?_)
      | (show inBlock _ _ _ _; refine goB ?_)
      | (show awpR _ _ _ _ _ _ _; first | refine goR ?_ | refine clR 60 tt rfl rfl rfl (hr := t1) (k := ?_) | refine clR 68 tt rfl rfl rfl (hr := n1) (k := ?_) | refine clR 69 tt rfl rfl rfl (hr := c1) (k := ?_) | (refine gdRG ?_ ?_ <;> intro _ <;> try (exfalso; omega)))
      | (show retPost _ _ _ _ _; refine finG ?_))
    rfl
theorem law05_ints (l : List Int) (hl : l.length ≤ 1000) (hx : ∀ v ∈ l, -9223372036854775808 ≤ v ∧ v < 9223372036854775808) : Ret Tryz.prog 27 [i64s l] (· = qsD (l.map fun (v : Int) => (v : Rat))) := by
  refine ret_of_awp tab Tryz.func27 rfl rfl (Nat.le_of_ble_eq_true rfl) (fun w0 F0 => ?_)
  repeat' (first
    | (show awpL _ _ _ _ _; first | refine goL ?_ | (refine gdLG ?_ ?_ <;> intro _ <;> try (exfalso; omega)))
    | (show awp _ _ _ _; first | refine goA ?_ | (refine cdG ?_ ?_ <;> intro _ <;> try (exfalso; omega)))
    | (show andThen _ _ _ _; refine goN ?_)
    | (show inBlock _ _ _ _; refine goB ?_)
    | (show retPost _ _ _ _ _; refine finG ?_))
  refine awp_adopt 3 500 29 3 qC 0 rfl ?_
  refine awp_loop1 (fun (i : Nat) => ([(0, .d (i64s l)), (3, qO i), (4, .d (.int .i64 i))], [(500, qB ((l.map fun (v : Int) => (v : Rat)).take i))])) (fun i => i ≤ l.length) (fun i => l.length - i) 0 (by omega) ⟨rfl, rfl, rfl, rfl⟩ ⟨rfl, trivial⟩ (fun i hi => ?_)
  have hlq : ((l.map fun (v : Int) => (v : Rat)).take i).length = i := by rw [List.length_take, List.length_map]; omega
  by_cases h3 : i < l.length
  · have hb := hx (l.getD i 0) (by rw [List.getD_eq_getElem?_getD, List.getElem?_eq_getElem h3]; exact List.getElem_mem h3)
    have f1 := ref03_FromIntW (l.getD i 0) hb.1 hb.2
    have et : (l.map fun (v : Int) => (v : Rat)).take i ++ [((l.getD i 0 : Int) : Rat)] = (l.map fun (v : Int) => (v : Rat)).take (i + 1) := by
      rw [List.take_add_one, List.getElem?_map, List.getD_eq_getElem?_getD, List.getElem?_eq_getElem h3]; rfl
    generalize ((l.getD i 0 : Int) : Rat) = x at *
    obtain ⟨B, hB⟩ : ∃ B, (l.map fun (v : Int) => (v : Rat)).take (i + 1) = B := ⟨_, rfl⟩
    rw [hB] at et
    generalize (l.map fun (v : Int) => (v : Rat)).take i = A at *
    clear hx
    repeat' (first
      | (show awpL _ _ _ _ _; first | refine goL ?_ | refine cl 31 tt rfl rfl rfl (hr := f1) (k := ?_) | (refine gdLG ?_ ?_ <;> intro _ <;> try (exfalso; omega)))
      | (show awp _ _ _ _; first | refine goA ?_ | (refine cdG ?_ ?_ <;> intro _ <;> try (exfalso; omega)))
      | (show andThen _ _ _ _; refine goN ?_)
      | (show inBlock _ _ _ _; refine goB ?_)
      | (show retPost _ _ _ _ _; refine finG ?_))
    exact ⟨i + 1, by omega, by omega, ⟨rfl, ownEq (by rw [List.length_append, hlq]; rfl), iv (by omega), rfl⟩, blkEq (et.trans hB.symm), trivial⟩
  · have e : i = l.length := by omega
    subst e
    rw [List.take_of_length_le (by rw [List.length_map]; omega)] at hlq ⊢
    generalize (l.map fun (v : Int) => (v : Rat)) = A at *
    clear hx
    repeat' (first
      | (show awpL _ _ _ _ _; first | refine goL ?_ | (refine gdLG ?_ ?_ <;> intro _ <;> try (exfalso; omega)))
      | (show awp _ _ _ _; first | refine goA ?_ | (refine cdG ?_ ?_ <;> intro _ <;> try (exfalso; omega)))
      | (show andThen _ _ _ _; refine goN ?_)
      | (show inBlock _ _ _ _; refine goB ?_)
      | (show retPost _ _ _ _ _; first | refine finF true rfl rfl sc ?_ | refine finF false rfl rfl sc ?_ | refine finC false rfl rfl sc sc ?_ | refine finN rfl rfl sc ?_ | refine finL true rfl rfl sc rfl (LeR.cons rfl leL LeR.nil) ?_ | refine finA true rfl rfl sc ?_ | refine finA false rfl rfl sc ?_ | refine finE true rfl rfl sc ?_ | refine finE false rfl rfl sc ?_))
    all_goals rfl
end Go.Proofs.YtlphlodailailaaGreat
