/-
  A statement of the seat: what its contract is, and the claim. Conditions: as each says.
-/
import Derived.Test.YtlphlodailailaaGreatY12
import Derived.Test.YtlphlodailailaaGreatA08
import Derived.Test.YtlphlodailailaaGreatA10
set_option linter.unusedVariables false
set_option linter.unusedSimpArgs false
set_option maxHeartbeats 8000000
namespace Go.Proofs.YtlphlodailailaaGreat
open Go.Vw
attribute [local irreducible] awp awpL awpR

theorem okQ_sm {x : Rat} (h1 : x.num.natAbs < 4294967296) (h2 : x.den < 4294967296) : okQ 3 x := by
  have lm : ∀ n, n < 4294967296 → (limbs n).length < 3 := fun n h => by
    rcases Nat.eq_zero_or_pos n with e | e
    · subst e; rw [limbs_zero]; decide
    · rw [limbs_small (by show n < 4294967296; omega) (by omega)]; simp
  exact ⟨lm _ h1, lm _ h2⟩
def smB (l : List Rat) : Bool := l.all fun x => decide (x.num.natAbs < 4294967296) && decide (x.den < 4294967296)
theorem sm_ok {l : List Rat} (h : smB l = true) : ∀ x ∈ l, okQ 3 x := fun x hx => by
  have := List.all_eq_true.1 h x hx
  simp only [Bool.and_eq_true, decide_eq_true_eq] at this
  exact okQ_sm this.1 this.2
theorem sm_ht {l : List Rat} (h : smB l = true) (hl : l.length ≤ 3) : HtP 11 l := (HtP.of_ok (by decide) l (sm_ok h)).mono (by omega)
theorem tr_dec {p : List Rat} (h : trimP p = p) : Tr p := by rw [← h]; exact tr_trim p
theorem ctrOk_conc {p d G Q e : List Rat} (hd : derP p = d) (hG : gcdP p d = G) (hQ : (divP p G).1 = Q) (he : derP Q = e) (g0 : G ≠ []) (tp : trimP p = p) (tG : trimP G = G) (tQ : trimP Q = Q) (sp : smB p = true) (sd : smB d = true) (sG : smB G = true) (sQ : smB Q = true) (se : smB e = true) (lp : p.length ≤ 3) (ld : d.length ≤ 2) (lG : G.length ≤ 3) (lQ : Q.length ≤ 3) (le : e.length < Q.length) : CtrOk p := by
  have eQ : ctrQ p = Q := by unfold ctrQ; rw [hd, hG, hQ]
  have td : Tr d := by rw [← hd]; exact tr_trim _
  have te : Tr e := by rw [← he]; exact tr_trim _
  have hdl : (max p.length (d.length + 1)) ≤ 3 := by omega
  refine ⟨by rw [hd, hG]; exact g0, by rw [hd, hG]; exact tr_dec tG, by
    rw [hd]
    refine JG.of (tr_dec tp) td (sm_ht sp lp) (sm_ht sd (by omega)) ?_
    have := Nat.mul_le_mul_left 12 (Nat.pow_le_pow_right (show 0 < 3 by decide) hdl)
    unfold Bud
    omega, by rw [hd, hG]; omega, by
    rw [hd, hG]
    refine ⟨11, 11, sm_ht sp lp, sm_ht sG lG, ?_⟩
    have := Nat.mul_le_mul_right 11 (show p.length + 1 - G.length ≤ 4 by omega)
    omega, by rw [eQ]; omega, by
    rw [eQ, he]
    refine ⟨11, tr_dec tQ, te, fun _ => le, sm_ht sQ lQ, sm_ht se (by omega), ?_⟩
    have := Nat.mul_le_mul_left 12 (Nat.pow_le_pow_right (show 0 < 3 by decide) lQ)
    unfold Bud
    omega⟩
theorem ref03_SameListQ (a b : List Rat) (la : a.length < 10000000) (lb : b.length < 10000000) (ha : ∀ x ∈ a, okQ 10000000 x) (hb : ∀ x ∈ b, okQ 10000000 x) : Ret Tryz.prog 16 [qsD a, qsD b] (· = .bool (decide (a = b))) := by
  have h := ref03_SameList (a.map rq) (b.map rq) (by rw [List.length_map]; omega) (by rw [List.length_map]; omega) (fun r hr => by
    obtain ⟨q, hq, rfl⟩ := List.mem_map.1 hr
    exact okR_of (ha q hq) (by decide)) (fun r hr => by
    obtain ⟨q, hq, rfl⟩ := List.mem_map.1 hr
    exact okR_of (hb q hq) (by decide))
  rw [show decide (a.map rq = b.map rq) = decide (a = b) from decide_eq_decide.2 ⟨fun h => by have := congrArg (List.map rv) h; rwa [map_rv_rqL, map_rv_rqL] at this, fun h => by rw [h]⟩] at h
  exact h.args (leQRs a (leQRs b (LeT.refl _)))
def cA : List Rat := [((-2 : Int) : Rat), ((0 : Int) : Rat), ((1 : Int) : Rat)]
def cB : List Rat := [((0 : Int) : Rat), ((2 : Int) : Rat)]
def cC : List Rat := [((2 : Int) : Rat)]
def cE : List Rat := [((1 : Int) : Rat), ((-2 : Int) : Rat), ((1 : Int) : Rat)]
theorem law05_awake : Ret Tryz.prog 15 [] (· = .bool true) := by
  have okA : CtrOk cA := ctrOk_conc (d := cB) (G := [1]) (Q := cA) (e := cB) (by decide +kernel) (by decide +kernel) (by decide +kernel) (by decide +kernel) (by decide) (by decide +kernel) (by decide +kernel) (by decide +kernel) (by decide +kernel) (by decide +kernel) (by decide +kernel) (by decide +kernel) (by decide +kernel) (by decide) (by decide) (by decide) (by decide) (by decide)
  have okE : CtrOk cE := ctrOk_conc (d := [-2, 2]) (G := [-1, 1]) (Q := [-1, 1]) (e := [1]) (by decide +kernel) (by decide +kernel) (by decide +kernel) (by decide +kernel) (by decide) (by decide +kernel) (by decide +kernel) (by decide +kernel) (by decide +kernel) (by decide +kernel) (by decide +kernel) (by decide +kernel) (by decide +kernel) (by decide) (by decide) (by decide) (by decide) (by decide)
  have sA : smB cA = true := by decide +kernel
  have sE : smB cE = true := by decide +kernel
  have sB : smB cB = true := by decide +kernel
  have sC : smB cC = true := by decide +kernel
  have tA : trimP cA = cA := by decide +kernel
  have tE : trimP cE = cE := by decide +kernel
  have i1 := law05_ints [-2, 0, 1] (by decide) (by decide)
  have i2 := law05_ints [0, 2] (by decide) (by decide)
  have i3 := law05_ints [2] (by decide) (by decide)
  have i4 := law05_ints [1, -2, 1] (by decide) (by decide)
  have f0 := ref03_FromIntW 0 (by decide) (by decide)
  have f1 := ref03_FromIntW 1 (by decide) (by decide)
  have f2 := ref03_FromIntW 2 (by decide) (by decide)
  have jA : JS cA (derP cA) 11 := ⟨tr_dec tA, tr_trim _, fun _ => by decide +kernel, sm_ht sA (by decide), sm_ht (by decide +kernel) (by decide +kernel), by decide⟩
  have c1 := polynomial_sturmJ 65 id ChOk.id (fun p _ pl _ => chain_id p (by omega)) (cA.map rq) (by decide) (rqs_ok fun x hx => (sm_ok sA x hx).mono (by decide)) 11 (by rw [map_rv_rqL, tA]; exact jA)
  rw [map_rv_rqL, tA, show chainL id ((cA.map rq).length + 1) cA (derP cA) = [cA, cB, cC] by decide +kernel] at c1
  have c2 := (polynomial_Chain (cA.map rq) _ c1).args (leQRs cA (LeT.refl _))
  have k1 := polynomial_Count (cA.map rq) (rq ((0 : Int) : Rat)) (rq ((2 : Int) : Rat)) (by decide) (rqs_ok fun x hx => (sm_ok sA x hx).mono (by decide)) (fun _ => by rw [map_rv_rqL, tA]; exact okA) (ok_rq ((ok_intW (by decide)).mono (by decide))) (ok_rq ((ok_intW (by decide)).mono (by decide)))
  rw [map_rv_rqL, tA, rv_rq, rv_rq, show (if cA = [] then (-1 : Int) else cntF (ctr cA) ((0 : Int) : Rat) ((2 : Int) : Rat)) = 1 by decide +kernel] at k1
  have k1 := k1.args (leQRs cA (LeT.refl _))
  have k2 := polynomial_Count (cE.map rq) (rq ((1 : Int) : Rat)) (rq ((2 : Int) : Rat)) (by decide) (rqs_ok fun x hx => (sm_ok sE x hx).mono (by decide)) (fun _ => by rw [map_rv_rqL, tE]; exact okE) (ok_rq ((ok_intW (by decide)).mono (by decide))) (ok_rq ((ok_intW (by decide)).mono (by decide)))
  rw [map_rv_rqL, tE, rv_rq, rv_rq, show (if cE = [] then (-1 : Int) else cntF (ctr cE) ((1 : Int) : Rat) ((2 : Int) : Rat)) = 0 by decide +kernel] at k2
  have k2 := k2.args (leQRs cE (LeT.refl _))
  have s1 := ref03_SameListQ cB cB (by decide) (by decide) (fun x hx => (sm_ok sB x hx).mono (by decide)) (fun x hx => (sm_ok sB x hx).mono (by decide))
  have s2 := ref03_SameListQ cC cC (by decide) (by decide) (fun x hx => (sm_ok sC x hx).mono (by decide)) (fun x hx => (sm_ok sC x hx).mono (by decide))
  rw [decide_eq_true rfl] at s1 s2
  rw [show ([-2, 0, 1] : List Int).map (fun (v : Int) => (v : Rat)) = cA from rfl] at i1
  rw [show ([0, 2] : List Int).map (fun (v : Int) => (v : Rat)) = cB from rfl] at i2
  rw [show ([2] : List Int).map (fun (v : Int) => (v : Rat)) = cC from rfl] at i3
  rw [show ([1, -2, 1] : List Int).map (fun (v : Int) => (v : Rat)) = cE from rfl] at i4
  clear okA okE sA sE sB sC tA tE jA c1
  generalize cA = A at *
  generalize cB = B at *
  generalize cC = C at *
  generalize cE = E at *
  generalize ((0 : Int) : Rat) = q0 at *
  generalize ((1 : Int) : Rat) = q1 at *
  generalize ((2 : Int) : Rat) = q2 at *
  refine ret_of_awp tab Tryz.func15 rfl rfl (Nat.le_of_ble_eq_true rfl) (fun w0 F0 => ?_)
  repeat' (first
    | (show awpL _ _ _ _ _; first | refine goL ?_ | refine cl 27 tt rfl rfl rfl (hr := i1) (k := ?_) | refine cl 27 tt rfl rfl rfl (hr := i2) (k := ?_) | refine cl 27 tt rfl rfl rfl (hr := i3) (k := ?_) | refine cl 27 tt rfl rfl rfl (hr := i4) (k := ?_) | refine cl 20 tt rfl rfl rfl (hr := c2) (k := ?_) | refine cl 31 tt rfl rfl rfl (hr := f0) (k := ?_) | refine cl 31 tt rfl rfl rfl (hr := f1) (k := ?_) | refine cl 31 tt rfl rfl rfl (hr := f2) (k := ?_) | refine cl 22 tt rfl rfl rfl (hr := k1) (k := ?_) | refine cl 22 tt rfl rfl rfl (hr := k2) (k := ?_) | refine cl 16 tt rfl rfl rfl (hr := s1) (k := ?_) | refine cl 16 tt rfl rfl rfl (hr := s2) (k := ?_) | (refine gdLG ?_ ?_ <;> intro _ <;> try (exfalso; omega)))
    | (show awp _ _ _ _; first | refine goA ?_ | refine rg 3 24 ?_ | (refine cdG ?_ ?_ <;> intro _ <;> try (exfalso; omega)))
    | (show andThen _ _ _ _; refine goN ?_)
    | (show inBlock _ _ _ _; refine goB ?_)
    | (show awpR _ _ _ _ _ _ _; first | refine goR ?_ | refine clR 27 tt rfl rfl rfl (hr := i1) (k := ?_) | refine clR 27 tt rfl rfl rfl (hr := i2) (k := ?_) | refine clR 27 tt rfl rfl rfl (hr := i3) (k := ?_) | refine clR 27 tt rfl rfl rfl (hr := i4) (k := ?_) | refine clR 20 tt rfl rfl rfl (hr := c2) (k := ?_) | refine clR 31 tt rfl rfl rfl (hr := f0) (k := ?_) | refine clR 31 tt rfl rfl rfl (hr := f1) (k := ?_) | refine clR 31 tt rfl rfl rfl (hr := f2) (k := ?_) | refine clR 22 tt rfl rfl rfl (hr := k1) (k := ?_) | refine clR 22 tt rfl rfl rfl (hr := k2) (k := ?_) | refine clR 16 tt rfl rfl rfl (hr := s1) (k := ?_) | refine clR 16 tt rfl rfl rfl (hr := s2) (k := ?_) | (refine gdRG ?_ ?_ <;> intro _ <;> try (exfalso; omega)))
    | (show retPost _ _ _ _ _; refine finG ?_))
  rfl
end Go.Proofs.YtlphlodailailaaGreat
