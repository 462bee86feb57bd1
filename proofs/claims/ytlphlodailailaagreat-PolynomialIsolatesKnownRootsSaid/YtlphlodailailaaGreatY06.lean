/-
  A statement of the seat: what its contract is, and the claim. Conditions: as each says.
-/
import Derived.Test.YtlphlodailailaaGreatY05
import Derived.Test.YtlphlodailailaaGreatA08
import Derived.Test.YtlphlodailailaaGreatA10
set_option linter.unusedVariables false
set_option linter.unusedSimpArgs false
set_option maxHeartbeats 8000000
namespace Go.Proofs.YtlphlodailailaaGreat
open Go.Vw
attribute [local irreducible] awp awpL awpR

theorem leQR (l : List Rat) : LeD (qsD l) (rsD (l.map rq)) := LeD.sl (by simp) fun i a b ha hb => by
  simp only [List.getElem?_map] at hb
  rw [ha] at hb
  simp only [Option.map_some, Option.some.injEq] at hb
  subst hb
  exact ⟨rfl, LeL.refl _⟩
theorem leRQ (l : List Rat) : LeD (rsD (l.map rq)) (qsD l) := LeD.sl (by simp) fun i a b ha hb => by
  simp only [List.getElem?_map] at ha
  rw [hb] at ha
  simp only [Option.map_some, Option.some.injEq] at ha
  subst ha
  exact ⟨rfl, LeL.refl _⟩
theorem Ret.le {P : Program} {f : FuncId} {ds : List D} {d d' : D} (h : Ret P f ds (· = d)) (e : LeD d d') : Ret P f ds (· = d') := ⟨h.enters, fun F w vs a b c => (h.run F w vs a b c).mono fun _ _ ⟨v, r, F', e1, e2, e3, e4, e5, e6⟩ => ⟨v, d', F', e1, rfl, e3, e4, e5, e _ _ _ (e2 ▸ e6)⟩⟩
theorem cf_rvs (p : List R3) (i : Nat) : rv (p.getD i r0) = cf (p.map rv) i := by
  unfold cf
  by_cases h : i < p.length
  · simp [List.getD_eq_getElem?_getD, List.getElem?_eq_getElem h]
  · simp only [List.getD_eq_getElem?_getD, List.getElem?_map, List.getElem?_eq_none (show p.length ≤ i by omega), Option.getD_none, Option.map_none]
    exact rv_r0
theorem map_rv_rqL (l : List Rat) : (l.map rq).map rv = l := by
  rw [List.map_map]
  exact (List.map_congr_left (fun q _ => rv_rq q)).trans (List.map_id l)
theorem cf_range (g : Nat → Rat) (m i : Nat) : cf ((List.range m).map g) i = if i < m then g i else 0 := by
  unfold cf
  split
  · rename_i h; simp [List.getD_eq_getElem?_getD, h]
  · rename_i h; simp [List.getD_eq_getElem?_getD, h]
theorem ok_getD {p : List R3} {k : Nat} (h : ∀ r ∈ p, RatOk r k) (hk : 1 < k) (i : Nat) : RatOk (p.getD i r0) k := by
  by_cases hi : i < p.length
  · exact gMem h hi
  · rw [List.getD_eq_getElem?_getD, List.getElem?_eq_none (by omega)]
    have := ok_rq (okQ_zero hk)
    rwa [show rq 0 = r0 by decide +kernel] at this
theorem polynomial_Sub (p q : List R3) (hp : p.length ≤ 500) (hq : q.length ≤ 500) (kp : ∀ r ∈ p, RatOk r 5000000) (kq : ∀ r ∈ q, RatOk r 5000000) : Ret Tryz.prog 39 [rsD p, rsD q] (· = qsD (trimP (subC (p.map rv) (q.map rv)))) := by
  have hc := polynomial_combine 80 (fun i => rv (p.getD i r0) - rv (q.getD i r0)) p q hp hq (fun i _ => rational_Sub _ _ ((ok_getD kp (by decide) i).up (by decide)) ((ok_getD kq (by decide) i).up (by decide))) (fun i _ => (okQ_rv (ok_getD kp (by decide) i) (by decide)).sub (okQ_rv (ok_getD kq (by decide) i) (by decide)))
  have e : trimP ((List.range (max p.length q.length)).map fun i => rv (p.getD i r0) - rv (q.getD i r0)) = trimP (subC (p.map rv) (q.map rv)) := trim_ext fun i => by
    rw [cf_range, cf_sub, cf_rvs, cf_rvs]
    split
    · rfl
    · rw [cf_ge (by rw [List.length_map]; omega), cf_ge (by rw [List.length_map]; omega)]; grind
  rw [e] at hc
  generalize trimP (subC (p.map rv) (q.map rv)) = r at *
  clear kp kq e
  refine ret_of_awp tab Tryz.func39 rfl rfl (Nat.le_of_ble_eq_true rfl) (fun w0 F0 => ?_)
  repeat' (first
    | (show awpL _ _ _ _ _; first | refine goL ?_ | refine cl 84 tt rfl rfl rfl (hr := hc) (k := ?_) | (refine gdLG ?_ ?_ <;> intro _ <;> try (exfalso; omega)))
    | (show awp _ _ _ _; first | refine goA ?_ | (refine cdG ?_ ?_ <;> intro _ <;> try (exfalso; omega)))
    | (show andThen _ _ _ _; refine goN ?_)
    | (show inBlock _ _ _ _; refine goB ?_)
    | (show retPost _ _ _ _ _; refine finG ?_))
  rfl
theorem smul_getD (c : Rat) (p : List R3) (g : Nat → Rat) (h : ∀ i, g i = c * rv (p.getD i r0)) : (List.range p.length).map g = smul c (p.map rv) := by
  refine List.ext_getElem (by simp [smul]) fun i h1 h2 => ?_
  simp only [List.length_map, List.length_range] at h1
  simp only [List.getElem_map, List.getElem_range, smul, h, List.getD_eq_getElem?_getD, List.getElem?_eq_getElem h1, Option.getD_some]
theorem polynomial_scaled (p : List R3) (y : R3) (hp : p.length ≤ 500) (kp : ∀ r ∈ p, RatOk r 5000000) (ky : RatOk y 5000000) (h0 : rv y ≠ 0) : Ret Tryz.prog 61 [rsD p, rD y] (· = qsD (smul (1 / rv y) (p.map rv))) := by
  obtain ⟨m, hm⟩ : ∃ m, p.length = m := ⟨_, rfl⟩
  obtain ⟨g, hg⟩ : ∃ g : Nat → Rat, ∀ i, g i = rv (p.getD i r0) / rv y := ⟨fun i => rv (p.getD i r0) / rv y, fun _ => rfl⟩
  have he := smul_getD (1 / rv y) p g (fun i => by rw [hg, Rat.div_def, Rat.div_def, Rat.one_mul, Rat.mul_comm])
  rw [hm] at he
  rw [← he]
  clear he
  refine Ret.le ?_ (leRQ _)
  refine ret_of_awp tab Tryz.func61 rfl rfl (Nat.le_of_ble_eq_true rfl) (fun w0 F0 => ?_)
  repeat' (first
    | (show awpL _ _ _ _ _; first | refine goL ?_ | refine stepMake (mm := true) (en := rC) (z := r0) tt rfl rfl rfl rfl rfl rfl rfl rfl rfl rfl rfl rfl leL sc sc ?_ | refine stepMake (mm := false) (en := rC) (z := r0) tt rfl rfl rfl rfl rfl rfl rfl rfl rfl rfl rfl rfl leL sc sc ?_ | (refine gdLG ?_ ?_ <;> intro _ <;> try (exfalso; omega)))
    | (show awp _ _ _ _; first | refine goA ?_ | (refine cdG ?_ ?_ <;> intro _ <;> try (exfalso; omega)))
    | (show andThen _ _ _ _; refine goN ?_)
    | (show inBlock _ _ _ _; refine goB ?_)
    | (show retPost _ _ _ _ _; refine finG ?_))
  refine awp_loop1 (fun (i : Nat) => ([(3, .ptr 3 0), (5, .own 10 0 m 29 3), (11, .d (rsD p)), (12, .d (.int .i64 m)), (13, .d (.int .i64 i))], [(3, .box 29 ((rC y).map V.d)), (10, .data 29 3 rC r0 (outL g m i))])) (fun i => i ≤ m) (fun i => m - i) 0 (by omega) ⟨rfl, ownEq hm, rfl, iv (by omega), rfl, rfl⟩ ⟨rfl, blkEq (by rw [hm]; unfold outL; simp), trivial⟩ (fun i hi => ?_)
  have hol := outL_len (g := g) hi
  by_cases h3 : i < m
  · have d1 := rational_Div (p.getD i r0) y ((ok_getD kp (by decide) i).up (by decide)) (ky.up (by decide))
    rw [if_neg h0, ← hg i] at d1
    have es := outL_set (g := g) h3
    generalize outL g m i = L at *
    generalize g i = x at *
    clear hg kp ky
    repeat' (first
      | (show awpL _ _ _ _ _; first | refine goL ?_ | refine cl 79 tt rfl rfl rfl (hr := d1) (k := ?_) | (refine gdLG ?_ ?_ <;> intro _ <;> try (exfalso; omega)))
      | (show awp _ _ _ _; first | refine goA ?_ | (refine cdG ?_ ?_ <;> intro _ <;> try (exfalso; omega)))
      | (show andThen _ _ _ _; refine goN ?_)
      | (show inBlock _ _ _ _; refine goB ?_)
      | (show retPost _ _ _ _ _; refine finG ?_))
    exact ⟨i + 1, by omega, by omega, ⟨rfl, rfl, rfl, rfl, rfl, rfl⟩, rfl, blkEq es, trivial⟩
  · have e : i = m := by omega
    subst e
    have eo : outL g i i = ((List.range i).map g).map rq := by unfold outL; rw [Nat.sub_self, List.replicate_zero, List.append_nil, List.map_map]; rfl
    have hl : ((List.range i).map g).length = i := by simp
    rw [eo] at hol ⊢
    generalize (List.range i).map g = R at *
    clear hg kp ky
    repeat' (first
      | (show awpL _ _ _ _ _; first | refine goL ?_ | (refine gdLG ?_ ?_ <;> intro _ <;> try (exfalso; omega)))
      | (show awp _ _ _ _; first | refine goA ?_ | (refine cdG ?_ ?_ <;> intro _ <;> try (exfalso; omega)))
      | (show andThen _ _ _ _; refine goN ?_)
      | (show inBlock _ _ _ _; refine goB ?_)
      | (show retPost _ _ _ _ _; refine finG ?_))
    rfl
theorem okQ_nat {n : Nat} (h : n ≤ 1000) : okQ 3 ((n : Int) : Rat) := okQ_natI (by rcases Nat.eq_zero_or_pos n with e | e
                                                                                   · subst e; rw [limbs_zero]; decide
                                                                                   · rw [limbs_small (by show n < 4294967296; omega) (by omega)]; simp) (by decide)
theorem der_take {p : List Rat} {i : Nat} (h : i + 1 < p.length) : (derC p).take i ++ [((((i + 1 : Nat) : Int)) : Rat) * p.getD (i + 1) 0] = (derC p).take (i + 1) := by
  have hl := derC_len p
  rw [List.take_add_one, List.getElem?_eq_getElem (show i < (derC p).length by omega)]
  have e := cf_der p i
  rw [cf_eq (by omega)] at e
  rw [e]
  rfl
theorem polynomial_Derivative (p : List R3) (hp : p.length ≤ 500) (kp : ∀ r ∈ p, RatOk r 5000000) : Ret Tryz.prog 107 [rsD p] (· = qsD (derP (p.map rv))) := by
  obtain ⟨m, hm⟩ : ∃ m, p.length = m := ⟨_, rfl⟩
  have hdl := derC_len (p.map rv)
  rw [List.length_map, hm] at hdl
  have hok : ∀ q ∈ derC (p.map rv), okQ 5000003 q := fun q hq => by
    obtain ⟨i, hi, rfl⟩ := List.getElem_of_mem hq
    have e := cf_der (p.map rv) i
    rw [cf_eq hi] at e
    rw [e, ← cf_rvs]
    exact ((okQ_nat (n := i + 1) (by omega)).mul (okQ_rv (ok_getD kp (by decide) (i + 1)) (by decide))).mono (by decide)
  have ht := polynomial_Trim ((derC (p.map rv)).map rq) (by rw [List.length_map]; omega) (fun r hr => by
    obtain ⟨q, hq, rfl⟩ := List.mem_map.1 hr
    exact ok_rq ((hok q hq).mono (by decide)))
  rw [map_rv_rqL] at ht
  have ht2 : Ret Tryz.prog 60 [qsD (derC (p.map rv))] (· = qsD (derP (p.map rv))) := ht.args (LeT.cons (leQR _) (LeT.refl _))
  clear ht hok
  generalize derP (p.map rv) = R at *
  refine ret_of_awp tab Tryz.func107 rfl rfl (Nat.le_of_ble_eq_true rfl) (fun w0 F0 => ?_)
  repeat' (first
    | (show awpL _ _ _ _ _; first | refine goL ?_ | (refine gdLG ?_ ?_ <;> intro _ <;> try (exfalso; omega)))
    | (show awp _ _ _ _; first | refine goA ?_ | refine rg 6 6 ?_ | (refine cdG ?_ ?_ <;> intro _ <;> try (exfalso; omega)))
    | (show andThen _ _ _ _; refine goN ?_)
    | (show inBlock _ _ _ _; refine goB ?_)
    | (show awpR _ _ _ _ _ _ _; first | refine goR ?_ | (refine gdRG ?_ ?_ <;> intro _ <;> try (exfalso; omega)))
    | (show retPost _ _ _ _ _; refine finG ?_))
  refine awp_adopt 3 500 29 3 qC 0 rfl ?_
  refine awp_loop1 (fun (i : Nat) => ([(3, qO (i - 1)), (6, .d (rsD p)), (7, .d (.int .i64 m)), (8, .d (.int .i64 i))], [(500, qB ((derC (p.map rv)).take (i - 1)))])) (fun i => i ≤ m) (fun i => m - i) 0 (by omega) ⟨rfl, rfl, iv (by omega), rfl, rfl⟩ ⟨rfl, trivial⟩ (fun i hi => ?_)
  by_cases h3 : i < m
  · by_cases h0 : 0 < i
    · have f1 := rational_FromIntQ (i : Int) (by omega) (by omega)
      have m1 := rational_Mul (rq ((i : Int) : Rat)) (p.getD i r0) (ok_rq ((okQ_nat (n := i) (by omega)).mono (by decide))) ((ok_getD kp (by decide) i).up (by decide))
      rw [rv_rq] at m1
      have et := der_take (p := p.map rv) (i := i - 1) (by rw [List.length_map]; omega)
      rw [show i - 1 + 1 = i by omega, gRv (by omega)] at et
      have hlq : ((derC (p.map rv)).take (i - 1)).length = i - 1 := by rw [List.length_take]; omega
      generalize (derC (p.map rv)).take (i - 1) = A at *
      obtain ⟨B, hB⟩ : ∃ B, (derC (p.map rv)).take i = B := ⟨_, rfl⟩
      rw [hB] at et
      generalize ((i : Int) : Rat) * rv (p.getD i r0) = x at *
      generalize ((i : Int) : Rat) = y at *
      clear kp
      repeat' (first
        | (show awpL _ _ _ _ _; first | refine goL ?_ | refine cl 100 tt rfl rfl rfl (hr := f1) (k := ?_) | refine cl 81 tt rfl rfl rfl (hr := m1) (k := ?_) | (refine gdLG ?_ ?_ <;> intro _ <;> try (exfalso; omega)))
        | (show awp _ _ _ _; first | refine goA ?_ | refine rg 6 6 ?_ | (refine cdG ?_ ?_ <;> intro _ <;> try (exfalso; omega)))
        | (show andThen _ _ _ _; refine goN ?_)
        | (show inBlock _ _ _ _; refine goB ?_)
        | (show awpR _ _ _ _ _ _ _; first | refine goR ?_ | refine clR 100 tt rfl rfl rfl (hr := f1) (k := ?_) | refine clR 81 tt rfl rfl rfl (hr := m1) (k := ?_) | (refine gdRG ?_ ?_ <;> intro _ <;> try (exfalso; omega)))
        | (show retPost _ _ _ _ _; refine finG ?_))
      exact ⟨i + 1, by omega, by omega, ⟨ownEq (by rw [List.length_append, hlq]; show i - 1 + 1 = i + 1 - 1; omega), rfl, rfl, iv (by omega), rfl⟩, blkEq (et.trans (by rw [← hB]; rfl)), trivial⟩
    · have e : i = 0 := by omega
      subst e
      clear kp
      repeat' (first
        | (show awpL _ _ _ _ _; first | refine goL ?_ | (refine gdLG ?_ ?_ <;> intro _ <;> try (exfalso; omega)))
        | (show awp _ _ _ _; first | refine goA ?_ | refine rg 6 6 ?_ | (refine cdG ?_ ?_ <;> intro _ <;> try (exfalso; omega)))
        | (show andThen _ _ _ _; refine goN ?_)
        | (show inBlock _ _ _ _; refine goB ?_)
        | (show awpR _ _ _ _ _ _ _; first | refine goR ?_ | (refine gdRG ?_ ?_ <;> intro _ <;> try (exfalso; omega)))
        | (show retPost _ _ _ _ _; refine finG ?_))
      exact ⟨1, by omega, by omega, ⟨rfl, rfl, rfl, iv (by omega), rfl⟩, rfl, trivial⟩
  · have e : i = m := by omega
    subst e
    rw [List.take_of_length_le (show (derC (p.map rv)).length ≤ i - 1 by omega)]
    generalize derC (p.map rv) = A at *
    clear kp
    repeat' (first
      | (show awpL _ _ _ _ _; first | refine goL ?_ | refine cl 60 tt rfl rfl rfl (hr := ht2) (k := ?_) | (refine gdLG ?_ ?_ <;> intro _ <;> try (exfalso; omega)))
      | (show awp _ _ _ _; first | refine goA ?_ | refine rg 6 6 ?_ | (refine cdG ?_ ?_ <;> intro _ <;> try (exfalso; omega)))
      | (show andThen _ _ _ _; refine goN ?_)
      | (show inBlock _ _ _ _; refine goB ?_)
      | (show awpR _ _ _ _ _ _ _; first | refine goR ?_ | refine clR 60 tt rfl rfl rfl (hr := ht2) (k := ?_) | (refine gdRG ?_ ?_ <;> intro _ <;> try (exfalso; omega)))
      | (show retPost _ _ _ _ _; refine finG ?_))
    rfl
end Go.Proofs.YtlphlodailailaaGreat
