/-
  A statement of the seat: what its contract is, and the claim. Conditions: as each says.
-/
import Derived.Test.YtlphlodailailaaGreatY15
import Derived.Test.YtlphlodailailaaGreatA07
import Derived.Test.YtlphlodailailaaGreatA08
set_option linter.unusedVariables false
set_option linter.unusedSimpArgs false
set_option maxHeartbeats 8000000
namespace Go.Proofs.YtlphlodailailaaGreat
open Go.Vw
attribute [local irreducible] awp awpL awpR

theorem newCounter_of (P : List R3) (E G Q Z : List Rat) (F : List (List Rat)) (d1 : Ret Tryz.prog 107 [rsD P] (· = qsD E)) (g2 : Ret Tryz.prog 17 [rsD P, qsD E] (· = qsD G)) (v1 : Ret Tryz.prog 32 [rsD P, qsD G] (· = .tup [qsD Q, qsD Z, .int .i64 0])) (s2 : Ret Tryz.prog 64 [qsD Q, .fn 109 []] (· = qssD F)) : Ret Tryz.prog 68 [rsD P] (· = qssD F) := by
  refine ret_of_awp tab Tryz.func68 rfl rfl (Nat.le_of_ble_eq_true rfl) (fun w0 F0 => ?_)
  repeat' (first
    | (show awpL _ _ _ _ _; first | refine goL ?_ | refine cl 107 tt rfl rfl rfl (hr := d1) (k := ?_) | refine cl 17 tt rfl rfl rfl (hr := g2) (k := ?_) | refine cl 32 tt rfl rfl rfl (hr := v1) (k := ?_) | refine cl 64 tt rfl rfl rfl (hr := s2) (k := ?_) | (refine gdLG ?_ ?_ <;> intro _ <;> try (exfalso; omega)))
    | (show awp _ _ _ _; first | refine goA ?_ | (refine cdG ?_ ?_ <;> intro _ <;> try (exfalso; omega)))
    | (show andThen _ _ _ _; refine goN ?_)
    | (show inBlock _ _ _ _; refine goB ?_)
    | (show retPost _ _ _ _ _; refine finG ?_))
  rfl
def xN (n : Nat) : List Rat := List.replicate n 0 ++ [1]
structure XOk (n : Nat) (E : List Rat) : Prop where
  e : derP (xN n) = E
  tx : trimP (xN n) = xN n
  ty : trimP (xN (n - 1)) = xN (n - 1)
  m : monicP E = xN (n - 1)
  mx : monicP (xN (n - 1)) = xN (n - 1)
  r : remP (xN n) E = []
  q : divP (xN n) (xN (n - 1)) = ([0, 1], [])
  s1 : smB (xN n) = true
  s2 : smB (xN (n - 1)) = true
  s3 : smB E = true
  l1 : (xN n).length = n + 1
  l2 : (xN (n - 1)).length = n
  l3 : E.length = n
  n0 : 1 ≤ n
  n1 : n ≤ 30
theorem sm_ht30 {l : List Rat} (h : smB l = true) (hl : l.length ≤ 31) : HtP 95 l := (HtP.of_ok (by decide) l (sm_ok h)).mono (by omega)
theorem newCounter_x (P : List R3) (n : Nat) (E : List Rat) (hx : XOk n E) (hP : P.map rv = xN n) (kP : ∀ r ∈ P, RatOk r 50000) : Ret Tryz.prog 68 [rsD P] (· = qssD [[0, 1], [1]]) := by
  have hl : P.length = n + 1 := by rw [← hx.l1, ← hP, List.length_map]
  have n1 := hx.n1
  have n0 := hx.n0
  have h3 := hx.l3
  have d1 := polynomial_Derivative P (by omega) kP
  rw [hP, hx.e] at d1
  have tE : Tr E := by rw [← hx.e]; exact tr_trim _
  have tX := tr_dec hx.tx
  have tY := tr_dec hx.ty
  have sc : ∀ p, Tr p → p ≠ [] → smB p = true → p.length ≤ 31 → Ret Tryz.prog 61 [qsD p, qD (p.getD ((p.length : Int) - 1).toNat 0)] (· = qsD (monicP p)) := fun p t p0 s pl => by
    have e1 : ((p.length : Int) - 1).toNat = p.length - 1 := by have := ne_len p0; omega
    rw [e1]
    exact polynomial_scaledQ p (lead p) (by omega) (fun x hx => (sm_ok s x hx).mono (by decide)) ((ok_cf (sm_ok s) (by decide) _).mono (by decide)) (lead_ne t p0)
  have E0 : E ≠ [] := fun h => by rw [h] at h3; simp at h3; omega
  have g1 := polynomial_Gcd P (E.map rq) (fun p q => (p = xN n ∧ q = E) ∨ (p = xN (n - 1) ∧ q = [])) (by omega) (by rw [List.length_map]; omega) (fun r hr => (kP r hr).up (by decide)) (rqs_ok fun x h => (sm_ok hx.s3 x h).mono (by decide)) (by rw [hP, hx.tx, map_rv_rqL, trim_of tE]; exact .inl ⟨rfl, rfl⟩)
    (fun p q h => by
      rcases h with ⟨rfl, rfl⟩ | ⟨rfl, rfl⟩
      · exact ⟨tX, tE, by rw [hx.l1]; omega, by omega⟩
      · exact ⟨tY, Tr.nil, by rw [hx.l2]; omega, by simp⟩)
    (fun p h p0 => by
      obtain ⟨q, (⟨rfl, _⟩ | ⟨rfl, _⟩) | (⟨_, rfl⟩ | ⟨_, rfl⟩)⟩ := h
      · exact sc _ tX p0 hx.s1 (by rw [hx.l1]; omega)
      · exact sc _ tY p0 hx.s2 (by rw [hx.l2]; omega)
      · exact sc _ tE p0 hx.s3 (by omega)
      · exact absurd rfl p0)
    (fun p q h q0 => by
      rcases h with ⟨rfl, rfl⟩ | ⟨_, rfl⟩
      · refine ⟨⟨_, polynomial_DivQ (xN n) q tX tE q0 (by rw [hx.l1]; omega) (by omega) (sm_ht30 hx.s1 (by rw [hx.l1]; omega)) (sm_ht30 hx.s3 (by omega)) (by rw [hx.l1, h3]; omega)⟩, .inr ⟨hx.m, hx.r⟩⟩
      · exact absurd rfl q0)
  rw [hP, hx.tx, map_rv_rqL, trim_of tE] at g1
  have eG : gcdP (xN n) E = xN (n - 1) := by
    have := gcdP_step tX tE E0 (a := 1 / lead E) (b := 1) (by
      intro h
      have h1 := lead_ne tE E0
      have h2 : lead E * (1 / lead E) = 1 := by rw [Rat.div_def, Rat.one_mul]; exact Rat.mul_inv_cancel _ h1
      rw [h, Rat.mul_zero] at h2
      exact absurd h2 (by decide)) (by decide)
    rw [this, hx.r, show smul 1 ([] : List Rat) = [] from rfl, gcdP_nil, show smul (1 / lead E) E = monicP E from rfl, hx.m, hx.mx]
  rw [eG] at g1
  have g2 : Ret Tryz.prog 17 [rsD P, qsD E] (· = qsD (xN (n - 1))) := g1.args (LeT.cons (LeD.refl _) (leQRs _ (LeT.refl _)))
  have Y0 : xN (n - 1) ≠ [] := by unfold xN; simp
  have v1 := polynomial_DivR P (xN (n - 1)) tY Y0 (by omega) (fun r hr => (kP r hr).up (by decide)) (by rw [hx.l2]; omega) (by rw [hP]; exact (sm_ht30 hx.s1 (by rw [hx.l1]; omega)).trim) (sm_ht30 hx.s2 (by rw [hx.l2]; omega)) (by rw [hP, hx.tx, hx.l1, hx.l2, show n + 1 + 1 - n = 2 by omega]; omega)
  rw [hP, hx.tx, hx.q] at v1
  have sQ : smB [0, 1] = true := by decide +kernel
  have jQ : JS [0, 1] (derP [0, 1]) 11 := ⟨tr_dec (by decide +kernel), tr_trim _, fun _ => by decide +kernel, sm_ht sQ (by decide), sm_ht (by decide +kernel) (by decide +kernel), by decide⟩
  have s1 := polynomial_sturmJ 109 smallP chOk_small (fun p t pl ok => polynomial_small p (by omega) ok t) (([0, 1] : List Rat).map rq) (by decide) (rqs_ok fun x h => (sm_ok sQ x h).mono (by decide)) 11 (by rw [map_rv_rqL, show trimP ([0, 1] : List Rat) = [0, 1] by decide +kernel]; exact jQ)
  rw [map_rv_rqL, show trimP ([0, 1] : List Rat) = [0, 1] by decide +kernel, show chainL smallP ((([0, 1] : List Rat).map rq).length + 1) [0, 1] (derP [0, 1]) = [[0, 1], [1]] by decide +kernel] at s1
  exact newCounter_of P E _ _ _ _ d1 g2 v1 (s1.args (leQRs _ (LeT.refl _)))
theorem isolate_big (P : List R3) (lo hi : R3) (n : Int) (h : 24 < n) (hn : n < 1000000) (dg : Ret Tryz.prog 43 [rsD P] (· = .int .i64 n)) : Ret Tryz.prog 49 [rsD P, rD lo, rD hi] (· = .tup [.nils, .int .i64 2]) := by
  refine ret_of_awp tab Tryz.func49 rfl rfl (Nat.le_of_ble_eq_true rfl) (fun w0 F0 => ?_)
  repeat' (first
    | (show awpL _ _ _ _ _; first | refine goL ?_ | refine cl 43 tt rfl rfl rfl (hr := dg) (k := ?_) | (refine gdLG ?_ ?_ <;> intro _ <;> try (exfalso; omega)))
    | (show awp _ _ _ _; first | refine goA ?_ | refine rg 8 5 ?_ | (refine cdG ?_ ?_ <;> intro _ <;> try (exfalso; omega)))
    | (show andThen _ _ _ _; refine goN ?_)
    | (show inBlock _ _ _ _; refine goB ?_)
    | (show awpR _ _ _ _ _ _ _; first | refine goR ?_ | refine clR 43 tt rfl rfl rfl (hr := dg) (k := ?_) | (refine gdRG ?_ ?_ <;> intro _ <;> try (exfalso; omega)))
    | (show retPost _ _ _ _ _; first | refine finF true rfl rfl sc ?_ | refine finF false rfl rfl sc ?_ | refine finC false rfl rfl sc sc ?_ | refine finN rfl rfl sc ?_ | refine finL true rfl rfl sc rfl (LeR.cons rfl leL LeR.nil) ?_ | refine finT true rfl rfl sc ?_ | refine finT false rfl rfl sc ?_ | refine finA true rfl rfl sc ?_ | refine finA false rfl rfl sc ?_ | refine finE true rfl rfl sc ?_ | refine finE false rfl rfl sc ?_))
  all_goals first | rfl | exact LeT.refl _
theorem refine_big (P : List R3) (F : List (List Rat)) (n : Int) (h : 24 < n) (hn : n < 1000000) (dg : Ret Tryz.prog 43 [rsD P] (· = .int .i64 n)) (nc : Ret Tryz.prog 68 [rsD P] (· = qssD F)) (ev : Ret Tryz.prog 36 [rsD P, rD r0] (· = qD 0)) : Ret Tryz.prog 51 [rsD P, iD r0 r0, .int .i64 3] (· = .tup [iD r0 r0, .int .i64 2]) := by
  have o0 : RatOk r0 50000 := by
    have h2 := ok_rq (q := 0) (k := 50000) (okQ_zero (by decide))
    rwa [show rq 0 = r0 by decide +kernel] at h2
  have vl := interval_Valid r0 r0 o0 o0
  rw [show (validR r0 && validR r0 && decide (rv r0 ≤ rv r0)) = true by decide +kernel] at vl
  have hu := interval_Hull r0 r0 r0 r0 o0 o0 o0 o0
  rw [show hullI (takeI (rv r0) (rv r0)) (takeI (rv r0) (rv r0)) = (0, 0) by decide +kernel, show iQ (0, 0) = iD r0 r0 by show iD (rq 0) (rq 0) = _; rw [show rq 0 = r0 by decide +kernel]] at hu
  have cm := rational_Compare r0 r0 (o0.up (by decide)) (o0.up (by decide))
  rw [show cmpQ (rv r0) (rv r0) = 0 by decide +kernel] at cm
  have sg := rational_SignQ 0 (okQ_zero (by decide))
  rw [show (0 : Rat).num.sign = 0 by decide +kernel] at sg
  generalize qD 0 = z at *
  refine ret_of_awp tab Tryz.func51 rfl rfl (Nat.le_of_ble_eq_true rfl) (fun w0 F0 => ?_)
  repeat' (first
    | (show awpL _ _ _ _ _; first | refine goL ?_ | refine cl 43 tt rfl rfl rfl (hr := dg) (k := ?_) | refine cl 68 tt rfl rfl rfl (hr := nc) (k := ?_) | refine cl 36 tt rfl rfl rfl (hr := ev) (k := ?_) | refine cl 97 tt rfl rfl rfl (hr := vl) (k := ?_) | refine cl 98 tt rfl rfl rfl (hr := hu) (k := ?_) | refine cl 95 tt rfl rfl rfl (hr := cm) (k := ?_) | refine cl 99 tt rfl rfl rfl (hr := sg) (k := ?_) | (refine gdLG ?_ ?_ <;> intro _ <;> try (exfalso; omega)))
    | (show awp _ _ _ _; first | refine goA ?_ | refine rg 4 9 ?_ | refine rg 14 7 ?_ | refine rg 16 3 ?_ | (refine cdG ?_ ?_ <;> intro _ <;> try (exfalso; omega)))
    | (show andThen _ _ _ _; refine goN ?_)
    | (show inBlock _ _ _ _; refine goB ?_)
    | (show awpR _ _ _ _ _ _ _; first | refine goR ?_ | refine clR 43 tt rfl rfl rfl (hr := dg) (k := ?_) | refine clR 68 tt rfl rfl rfl (hr := nc) (k := ?_) | refine clR 36 tt rfl rfl rfl (hr := ev) (k := ?_) | refine clR 97 tt rfl rfl rfl (hr := vl) (k := ?_) | refine clR 98 tt rfl rfl rfl (hr := hu) (k := ?_) | refine clR 95 tt rfl rfl rfl (hr := cm) (k := ?_) | refine clR 99 tt rfl rfl rfl (hr := sg) (k := ?_) | (refine gdRG ?_ ?_ <;> intro _ <;> try (exfalso; omega)))
    | (show retPost _ _ _ _ _; first | refine finF true rfl rfl sc ?_ | refine finF false rfl rfl sc ?_ | refine finC false rfl rfl sc sc ?_ | refine finN rfl rfl sc ?_ | refine finL true rfl rfl sc rfl (LeR.cons rfl leL LeR.nil) ?_ | refine finT true rfl rfl sc ?_ | refine finT false rfl rfl sc ?_ | refine finA true rfl rfl sc ?_ | refine finA false rfl rfl sc ?_ | refine finE true rfl rfl sc ?_ | refine finE false rfl rfl sc ?_))
  all_goals first | rfl | exact LeT.refl _ | exact LeT.cons (LeD.agg leL) (LeT.refl _)
end Go.Proofs.YtlphlodailailaaGreat
