/-
  A statement of the seat: what its contract is, and the claim. Conditions: as each says.
-/
import Derived.Test.YtdbfghgmoigohaaGreatY06
import Derived.Test.YtdbfghgmoigohaaGreatA08
set_option linter.unusedVariables false
set_option linter.unusedSimpArgs false
set_option maxHeartbeats 8000000
namespace Go.Proofs.YtdbfghgmoigohaaGreat
open Go.Vw
attribute [local irreducible] awp awpL awpR

def rqL (m : Nat) (v : Nat → Rat) : List R3 := (List.range m).map fun k => rq (v k)
theorem rqL_len (m : Nat) (v : Nat → Rat) : (rqL m v).length = m := by simp [rqL]
theorem rqL_getD {m : Nat} {v : Nat → Rat} {k : Nat} (h : k < m) : (rqL m v).getD k r0 = rq (v k) := by
  simp [rqL, List.getD_eq_getElem?_getD, h]
theorem rqL_set {m : Nat} {v v' : Nat → Rat} {k : Nat} {x : Rat} (h1 : x = v' k) (h2 : ∀ j, j ≠ k → v' j = v j) : (rqL m v).set k (rq x) = rqL m v' := by
  refine List.ext_getElem (by simp [rqL]) fun j g1 g2 => ?_
  simp only [rqL, List.getElem_set, List.getElem_map, List.getElem_range]
  split
  · rename_i e; subst e; rw [h1]
  · rename_i e; rw [h2 j (fun h => e h.symm)]
theorem rqL_congr {m : Nat} {v v' : Nat → Rat} (h : ∀ k, v k = v' k) : rqL m v = rqL m v' := by rw [show v = v' from funext h]
theorem rqL_zero (m : Nat) {v : Nat → Rat} (h : ∀ k, v k = 0) : List.replicate m r0 = rqL m v := by
  refine List.ext_getElem (by simp [rqL]) fun j g1 g2 => ?_
  simp only [rqL, List.getElem_replicate, List.getElem_map, h]
  decide +kernel
theorem rqL_qs (m : Nat) (v : Nat → Rat) : rqL m v = ((List.range m).map v).map rq := by simp [rqL]
theorem rqL_rv (m : Nat) (v : Nat → Rat) : (rqL m v).map rv = (List.range m).map v := by rw [rqL_qs, map_rv_rqL]
theorem rqL_ok {m : Nat} {v : Nat → Rat} {K : Nat} (h : ∀ k, okQ K (v k)) : ∀ r ∈ rqL m v, RatOk r K := by
  intro r hr
  obtain ⟨k, _, rfl⟩ := List.mem_map.1 hr
  exact ok_rq (h k)
theorem polynomial_Mul (a b : List R3) (K : Nat) (ha : a.length ≤ 100) (hb : b.length ≤ 100) (ka : ∀ r ∈ a, RatOk r K) (kb : ∀ r ∈ b, RatOk r K) (hK : 1 < K) (hK2 : K * (2 * a.length + 3) ≤ 10000000) : Ret Tryz.prog 13 [rsD a, rsD b] (· = qsD (trimP (mulC (a.map rv) (b.map rv)))) := by
  have hK3 : K ≤ 3333334 := by
    have := Nat.mul_le_mul_left K (show 3 ≤ 2 * a.length + 3 by omega)
    omega
  have ta := polynomial_Trim a (by omega) (fun r hr => (ka r hr).up (by omega))
  have tb := polynomial_Trim b (by omega) (fun r hr => (kb r hr).up (by omega))
  have la := trim_len (a.map rv)
  have lb := trim_len (b.map rv)
  rw [List.length_map] at la lb
  have oa : ∀ x ∈ trimP (a.map rv), okQ K x := fun x hx => by
    obtain ⟨r, hr, rfl⟩ := List.mem_map.1 (trim_mem hx)
    exact okQ_rv (ka r hr) hK
  have ob : ∀ x ∈ trimP (b.map rv), okQ K x := fun x hx => by
    obtain ⟨r, hr, rfl⟩ := List.mem_map.1 (trim_mem hx)
    exact okQ_rv (kb r hr) hK
  have he : trimP (mulC (a.map rv) (b.map rv)) = trimP (mulC (trimP (a.map rv)) (trimP (b.map rv))) :=
    trim_ext (((mul_eqv_l _ (trim_eqv _).symm)).trans (mul_eqv_r _ (trim_eqv _).symm))
  rw [he]
  have hpT := tr_trim (a.map rv)
  have hqT := tr_trim (b.map rv)
  generalize trimP (a.map rv) = p at *
  generalize trimP (b.map rv) = q at *
  have ok : ∀ i, i ≤ p.length → ∀ j k, okQ 10000000 (rowV p q i j k) := fun i hi j k => (ok_row oa ob hK hi j k).mono (by
    have h1 : 2 * K * i + 3 * K = K * (2 * i + 3) := by rw [Nat.mul_add, Nat.mul_comm K 3, ← Nat.mul_assoc, Nat.mul_comm K 2]
    have h2 := Nat.mul_le_mul_left K (show 2 * i + 3 ≤ 2 * a.length + 3 by omega)
    omega)
  clear ka kb he
  by_cases h0 : p.length = 0 ∨ q.length = 0
  · have e : trimP (mulC p q) = [] := (trim_nil_iff _).2 fun i => by
      rcases h0 with h | h
      · rw [List.length_eq_zero_iff.1 h]; rfl
      · rw [List.length_eq_zero_iff.1 h]; exact mul_zero_r p [] (fun _ => rfl) i
    rw [e]
    clear oa ob ok hpT hqT e
    rcases h0 with h | h
    · have hz : (p.length : Int) = 0 := by omega
      refine ret_of_awp tab Tryz.func13 rfl rfl (Nat.le_of_ble_eq_true rfl) (fun w0 F0 => ?_)
      repeat' (first
        | (show awpL _ _ _ _ _; first | refine goL ?_ | refine cl 20 tt rfl rfl rfl (hr := ta) (k := ?_) | refine cl 20 tt rfl rfl rfl (hr := tb) (k := ?_) | (refine gdLG ?_ ?_ <;> intro _ <;> try (exfalso; omega)))
        | (show awp _ _ _ _; first | refine goA ?_ | refine rg 11 14 ?_ | (refine cdG ?_ ?_ <;> intro _ <;> try (exfalso; omega)))
        | (show andThen _ _ _ _; refine goN ?_)
        | (show inBlock _ _ _ _; refine goB ?_)
        | (show awpR _ _ _ _ _ _ _; first | refine goR ?_ | refine clR 20 tt rfl rfl rfl (hr := ta) (k := ?_) | refine clR 20 tt rfl rfl rfl (hr := tb) (k := ?_) | (refine gdRG ?_ ?_ <;> intro _ <;> try (exfalso; omega)))
        | (show retPost _ _ _ _ _; first | refine finF true rfl rfl sc ?_ | refine finF false rfl rfl sc ?_ | refine finC false rfl rfl sc sc ?_ | refine finN rfl rfl sc ?_ | refine finL true rfl rfl sc rfl (LeR.cons rfl leL LeR.nil) ?_ | refine finA true rfl rfl sc ?_ | refine finA false rfl rfl sc ?_ | refine finE true rfl rfl sc ?_ | refine finE false rfl rfl sc ?_))
      all_goals rfl
    · have hz : (q.length : Int) = 0 := by omega
      refine ret_of_awp tab Tryz.func13 rfl rfl (Nat.le_of_ble_eq_true rfl) (fun w0 F0 => ?_)
      repeat' (first
        | (show awpL _ _ _ _ _; first | refine goL ?_ | refine cl 20 tt rfl rfl rfl (hr := ta) (k := ?_) | refine cl 20 tt rfl rfl rfl (hr := tb) (k := ?_) | (refine gdLG ?_ ?_ <;> intro _ <;> try (exfalso; omega)))
        | (show awp _ _ _ _; first | refine goA ?_ | refine rg 11 14 ?_ | (refine cdG ?_ ?_ <;> intro _ <;> try (exfalso; omega)))
        | (show andThen _ _ _ _; refine goN ?_)
        | (show inBlock _ _ _ _; refine goB ?_)
        | (show awpR _ _ _ _ _ _ _; first | refine goR ?_ | refine clR 20 tt rfl rfl rfl (hr := ta) (k := ?_) | refine clR 20 tt rfl rfl rfl (hr := tb) (k := ?_) | (refine gdRG ?_ ?_ <;> intro _ <;> try (exfalso; omega)))
        | (show retPost _ _ _ _ _; first | refine finF true rfl rfl sc ?_ | refine finF false rfl rfl sc ?_ | refine finC false rfl rfl sc sc ?_ | refine finN rfl rfl sc ?_ | refine finL true rfl rfl sc rfl (LeR.cons rfl leL LeR.nil) ?_ | refine finA true rfl rfl sc ?_ | refine finA false rfl rfl sc ?_ | refine finE true rfl rfl sc ?_ | refine finE false rfl rfl sc ?_))
      all_goals rfl
  · obtain ⟨m, hm⟩ : ∃ m, p.length + q.length - 1 = m := ⟨_, rfl⟩
    have p0 : 0 < p.length := by omega
    have q0 : 0 < q.length := by omega
    have hend : trimP ((List.range m).map (rowV p q p.length 0)) = trimP (mulC p q) := trim_ext fun i => by
      rw [cf_range]
      split
      · exact rowV_all p q i
      · have hh := (mul_high p q (p.length - 1) (q.length - 1) (fun i hi => cf_ge (by omega)) (fun i hi => cf_ge (by omega))).2 i (by omega)
        exact hh.symm
    have tm := polynomial_Trim (rqL m (rowV p q p.length 0)) (by rw [rqL_len]; omega) (rqL_ok fun k => ok _ (Nat.le_refl _) 0 k)
    rw [rqL_rv, hend] at tm
    generalize trimP (mulC p q) = R at *
    clear hend
    refine ret_of_awp tab Tryz.func13 rfl rfl (Nat.le_of_ble_eq_true rfl) (fun w0 F0 => ?_)
    repeat' (first
      | (show awpL _ _ _ _ _; first | refine goL ?_ | refine stepMake (mm := true) (en := rC) (z := r0) tt rfl rfl rfl rfl rfl rfl rfl rfl rfl rfl rfl rfl leL sc sc ?_ | refine stepMake (mm := false) (en := rC) (z := r0) tt rfl rfl rfl rfl rfl rfl rfl rfl rfl rfl rfl rfl leL sc sc ?_ | refine cl 20 tt rfl rfl rfl (hr := ta) (k := ?_) | refine cl 20 tt rfl rfl rfl (hr := tb) (k := ?_) | (refine gdLG ?_ ?_ <;> intro _ <;> try (exfalso; omega)))
      | (show awp _ _ _ _; first | refine goA ?_ | refine rg 11 14 ?_ | (refine cdG ?_ ?_ <;> intro _ <;> try (exfalso; omega)))
      | (show andThen _ _ _ _; refine goN ?_)
      | (show inBlock _ _ _ _; refine goB ?_)
      | (show awpR _ _ _ _ _ _ _; first | refine goR ?_ | refine clR 20 tt rfl rfl rfl (hr := ta) (k := ?_) | refine clR 20 tt rfl rfl rfl (hr := tb) (k := ?_) | (refine gdRG ?_ ?_ <;> intro _ <;> try (exfalso; omega)))
      | (show retPost _ _ _ _ _; refine finG ?_))
    refine awp_loop1 (fun (i : Nat) => ([(1, .d (qsD q)), (5, .own 28 0 m 39 3), (29, .d (qsD p)), (30, .d (.int .i64 p.length)), (31, .d (.int .i64 i))], [(28, .data 39 3 rC r0 (rqL m (rowV p q i 0)))])) (fun i => i ≤ p.length) (fun i => p.length - i) 0 (by omega) ⟨rfl, ownEq (by omega), rfl, rfl, rfl, rfl⟩ ⟨blkEq (by rw [← rqL_zero m (rowV_zero p q)]; congr 1; omega), trivial⟩ (fun i hi => ?_)
    have hl1 := rqL_len m (rowV p q i 0)
    by_cases h3 : i < p.length
    · have gi : p.getD i 0 = cf p i := rfl
      repeat' (first
        | (show awpL _ _ _ _ _; first | refine goL ?_ | (refine gdLG ?_ ?_ <;> intro _ <;> try (exfalso; omega)))
        | (show awp _ _ _ _; first | refine goA ?_ | refine rg 11 14 ?_ | (refine cdG ?_ ?_ <;> intro _ <;> try (exfalso; omega)))
        | (show andThen _ _ _ _; refine goN ?_)
        | (show inBlock _ _ _ _; refine goB ?_)
        | (show awpR _ _ _ _ _ _ _; first | refine goR ?_ | (refine gdRG ?_ ?_ <;> intro _ <;> try (exfalso; omega)))
        | (show retPost _ _ _ _ _; refine finG ?_))
      refine awp_loop1 (fun (j : Nat) => ([(1, .d (qsD q)), (5, .own 28 0 m 39 3), (6, .d (.int .i64 i)), (7, .ptr 7 0), (29, .d (qsD p)), (30, .d (.int .i64 p.length)), (31, .d (.int .i64 i)), (36, .d (qsD q)), (37, .d (.int .i64 q.length)), (38, .d (.int .i64 j))], [(28, .data 39 3 rC r0 (rqL m (rowV p q i j))), (7, .box 39 ((rC (rq (p.getD i 0))).map V.d))])) (fun j => j ≤ q.length) (fun j => q.length - j) 0 (by omega) ⟨rfl, rfl, rfl, rfl, rfl, rfl, rfl, rfl, rfl, rfl, rfl⟩ ⟨rfl, rfl, trivial⟩ (fun j hj => ?_)
      have hl2 := rqL_len m (rowV p q i j)
      by_cases h4 : j < q.length
      · have ej : ((i : Int) + (j : Int)).toNat = i + j := by omega
        have m1 := rational_Mul (rq (p.getD i 0)) (rq (q.getD j 0)) (ok_rq ((ok_cf oa hK i).mono (by omega))) (ok_rq ((ok_cf ob hK j).mono (by omega)))
        have oxy : okQ (K + K) (p.getD i 0 * q.getD j 0) := (ok_cf oa hK i).mul (ok_cf ob hK j)
        have a1 := rational_Add ((rqL m (rowV p q i j)).getD ((i : Int) + (j : Int)).toNat r0) (rq (p.getD i 0 * q.getD j 0)) (by rw [ej, rqL_getD (by omega)]; exact ok_rq ((ok i hi j (i + j)).mono (by decide))) (ok_rq (oxy.mono (by omega)))
        rw [rv_rq, rv_rq] at m1
        rw [rv_rq, ej, rqL_getD (show i + j < m by omega), rv_rq] at a1
        have es := rqL_set (m := m) (v := rowV p q i j) (v' := rowV p q i (j + 1)) (k := i + j) (x := rowV p q i j (i + j) + p.getD i 0 * q.getD j 0) (by rw [rowV_step, if_pos rfl]; rfl) (fun k hk => by rw [rowV_step, if_neg hk]; exact Rat.add_zero _)
        have a2 : Ret Tryz.prog 29 [rD ((rqL m (rowV p q i j)).getD ((i : Int) + (j : Int)).toNat r0), rD (rq (p.getD i 0 * q.getD j 0))] (· = rD (rq (rowV p q i j (i + j) + p.getD i 0 * q.getD j 0))) := by rw [ej, rqL_getD (show i + j < m by omega)]; exact a1
        clear a1
        generalize rowV p q i j (i + j) + p.getD i 0 * q.getD j 0 = z at *
        generalize p.getD i 0 * q.getD j 0 = xy at *
        obtain ⟨L2, hL2⟩ : ∃ L2, rqL m (rowV p q i (j + 1)) = L2 := ⟨_, rfl⟩
        rw [hL2] at es
        generalize rqL m (rowV p q i j) = L at *
        clear oa ob ok hpT hqT ta tb tm oxy
        repeat' (first
          | (show awpL _ _ _ _ _; first | refine goL ?_ | refine cl 23 tt rfl rfl rfl (hr := m1) (k := ?_) | refine cl 29 tt rfl rfl rfl (hr := a2) (k := ?_) | (refine gdLG ?_ ?_ <;> intro _ <;> try (exfalso; omega)))
          | (show awp _ _ _ _; first | refine goA ?_ | refine rg 11 14 ?_ | (refine cdG ?_ ?_ <;> intro _ <;> try (exfalso; omega)))
          | (show andThen _ _ _ _; refine goN ?_)
          | (show inBlock _ _ _ _; refine goB ?_)
          | (show awpR _ _ _ _ _ _ _; first | refine goR ?_ | refine clR 23 tt rfl rfl rfl (hr := m1) (k := ?_) | refine clR 29 tt rfl rfl rfl (hr := a2) (k := ?_) | (refine gdRG ?_ ?_ <;> intro _ <;> try (exfalso; omega)))
          | (show retPost _ _ _ _ _; refine finG ?_))
        exact ⟨j + 1, by omega, by omega, ⟨rfl, rfl, rfl, rfl, rfl, rfl, rfl, rfl, rfl, iv (by omega), rfl⟩, blkEq (es.trans hL2.symm), rfl, trivial⟩
      · have e : j = q.length := by omega
        subst e
        clear oa ob ok hpT hqT ta tb tm
        repeat' (first
          | (show awpL _ _ _ _ _; first | refine goL ?_ | (refine gdLG ?_ ?_ <;> intro _ <;> try (exfalso; omega)))
          | (show awp _ _ _ _; first | refine goA ?_ | refine rg 11 14 ?_ | (refine cdG ?_ ?_ <;> intro _ <;> try (exfalso; omega)))
          | (show andThen _ _ _ _; refine goN ?_)
          | (show inBlock _ _ _ _; refine goB ?_)
          | (show awpR _ _ _ _ _ _ _; first | refine goR ?_ | (refine gdRG ?_ ?_ <;> intro _ <;> try (exfalso; omega)))
          | (show retPost _ _ _ _ _; refine finG ?_))
        exact ⟨i + 1, by omega, by omega, ⟨rfl, rfl, rfl, rfl, iv (by omega), rfl⟩, blkEq (rqL_congr (rowV_row q h3)), trivial⟩
    · have e : i = p.length := by omega
      subst e
      generalize rqL m (rowV p q p.length 0) = L at *
      clear oa ob ok hpT hqT ta tb
      repeat' (first
        | (show awpL _ _ _ _ _; first | refine goL ?_ | refine cl 20 tt rfl rfl rfl (hr := tm) (k := ?_) | (refine gdLG ?_ ?_ <;> intro _ <;> try (exfalso; omega)))
        | (show awp _ _ _ _; first | refine goA ?_ | refine rg 11 14 ?_ | (refine cdG ?_ ?_ <;> intro _ <;> try (exfalso; omega)))
        | (show andThen _ _ _ _; refine goN ?_)
        | (show inBlock _ _ _ _; refine goB ?_)
        | (show awpR _ _ _ _ _ _ _; first | refine goR ?_ | refine clR 20 tt rfl rfl rfl (hr := tm) (k := ?_) | (refine gdRG ?_ ?_ <;> intro _ <;> try (exfalso; omega)))
        | (show retPost _ _ _ _ _; refine finG ?_))
      rfl
end Go.Proofs.YtdbfghgmoigohaaGreat
