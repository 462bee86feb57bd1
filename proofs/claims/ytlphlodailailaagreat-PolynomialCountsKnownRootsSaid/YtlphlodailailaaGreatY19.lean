/-
  A statement of the seat: what its contract is, and the claim. Conditions: as each says.
-/
import Derived.Test.YtlphlodailailaaGreatY18
import Derived.Test.YtlphlodailailaaGreatA09
set_option linter.unusedVariables false
set_option linter.unusedSimpArgs false
set_option maxHeartbeats 8000000
namespace Go.Proofs.YtlphlodailailaaGreat
open Go.Vw
attribute [local irreducible] awp awpL awpR

theorem rvs_ok {p : List R3} {K : Nat} (h : ∀ r ∈ p, RatOk r K) (hK : 1 < K) : ∀ x ∈ p.map rv, okQ K x := fun x hx => by
  obtain ⟨r, hr, rfl⟩ := List.mem_map.1 hx
  exact okQ_rv (h r hr) hK
theorem ref05_Mul (p q : List R3) (K : Nat) (hp : p.length ≤ 100) (hq : q.length ≤ 100) (kp : ∀ r ∈ p, RatOk r K) (kq : ∀ r ∈ q, RatOk r K) (hK : 1 < K) (hK2 : K * (2 * q.length + 3) ≤ 4000000) : Ret Tryz.prog 26 [rsD p, rsD q] (· = qsD (trimP (mulC (p.map rv) (q.map rv)))) := by
  have hK3 : K ≤ 1333334 := by
    have := Nat.mul_le_mul_left K (show 3 ≤ 2 * q.length + 3 by omega)
    omega
  have op := rvs_ok kp hK
  have oq := rvs_ok kq hK
  have fin : trimP (mulC ((q.map rv).take q.length) (p.map rv)) = trimP (mulC (p.map rv) (q.map rv)) := by
    rw [List.take_of_length_le (by rw [List.length_map]; omega)]
    exact trim_ext (mul_comm_eqv _ _)
  rw [← fin]
  obtain ⟨A, hA⟩ : ∃ A : Nat → List Rat, ∀ i, A i = trimP (mulC ((q.map rv).take i) (p.map rv)) := ⟨fun i => trimP (mulC ((q.map rv).take i) (p.map rv)), fun _ => rfl⟩
  have oA : ∀ i, i ≤ q.length → ∀ x ∈ A i, okQ 4000000 x := fun i hi x hx => by
    rw [hA] at hx
    refine cf_ok (fun k => ?_) x (trim_mem hx)
    rw [show cf (mulC ((q.map rv).take i) (p.map rv)) k = rowV (q.map rv) (p.map rv) i 0 k by
      unfold rowV
      rw [List.take_zero, cf_shift]
      simp [smul, Rat.add_zero]]
    refine (ok_row oq op hK (by rw [List.length_map]; exact hi) 0 k).mono ?_
    have h1 : 2 * K * i + 3 * K = K * (2 * i + 3) := by rw [Nat.mul_add, Nat.mul_comm K 3, ← Nat.mul_assoc, Nat.mul_comm K 2]
    have h2 := Nat.mul_le_mul_left K (show 2 * i + 3 ≤ 2 * q.length + 3 by omega)
    omega
  have lA : ∀ i, (A i).length ≤ 300 := fun i => by
    rw [hA]
    refine (tr_trim (mulC ((q.map rv).take i) (p.map rv))).len_lt fun j hj => ?_
    rw [cf_trim]
    exact (mul_high ((q.map rv).take i) (p.map rv) q.length p.length (fun j hj => cf_ge (by rw [List.length_take, List.length_map]; omega)) (fun j hj => cf_ge (by rw [List.length_map]; omega))).2 j (by omega)
  have sA : ∀ i, i < q.length → trimP (addC (A i) (trimP (shiftP i (smul (rv (q.getD i r0)) (p.map rv))))) = A (i + 1) := fun i hi => by
    rw [hA, hA]
    have e : (q.map rv).take (i + 1) = (q.map rv).take i ++ [rv (q.getD i r0)] := by
      rw [List.take_add_one, List.getElem?_map, List.getD_eq_getElem?_getD, List.getElem?_eq_getElem hi]; rfl
    rw [e]
    refine trim_ext ((add_eqv (trim_eqv _) (trim_eqv _)).trans ?_)
    have := mul_snoc ((q.map rv).take i) (rv (q.getD i r0)) (p.map rv)
    rw [List.length_take, List.length_map, show min i q.length = i by omega] at this
    exact this.symm
  have a0 : A 0 = [] := by rw [hA, List.take_zero]; rfl
  rw [← hA]
  clear hA fin
  refine ret_of_awp tab Tryz.func26 rfl rfl (Nat.le_of_ble_eq_true rfl) (fun w0 F0 => ?_)
  repeat' (first
    | (show awpL _ _ _ _ _; first | refine goL ?_ | (refine gdLG ?_ ?_ <;> intro _ <;> try (exfalso; omega)))
    | (show awp _ _ _ _; first | refine goA ?_ | (refine cdG ?_ ?_ <;> intro _ <;> try (exfalso; omega)))
    | (show andThen _ _ _ _; refine goN ?_)
    | (show inBlock _ _ _ _; refine goB ?_)
    | (show retPost _ _ _ _ _; refine finG ?_))
  refine awp_nils 5 3 qC 0 rfl ?_
  refine awp_loop1 (fun (i : Nat) => ([(0, .d (rsD p)), (1, .d (rsD q)), (5, .d (qsD (A i))), (6, .d (.int .i64 i))], [])) (fun i => i ≤ q.length) (fun i => q.length - i) 0 (by omega) ⟨rfl, rfl, (by rw [a0]; rfl), rfl, rfl⟩ trivial (fun i hi => ?_)
  by_cases h3 : i < q.length
  · have s1 := ref05_scaled p (q.getD i r0) i (by omega) (by omega) (fun r hr => (kp r hr).up (by omega)) ((ok_getD kq hK i).up (by omega))
    have oS : ∀ x ∈ trimP (shiftP i (smul (rv (q.getD i r0)) (p.map rv))), okQ 5000000 x := cf_ok fun k => by
      rw [cf_trim, cf_shift]
      split
      · exact okQ_zero (by decide)
      · rw [cf_smul]; exact ((okQ_rv (ok_getD kq hK i) hK).mul (ok_cf op hK _)).mono (by omega)
    have lS : (trimP (shiftP i (smul (rv (q.getD i r0)) (p.map rv)))).length ≤ 500 := by
      have h1 := trim_len (shiftP i (smul (rv (q.getD i r0)) (p.map rv)))
      have h2 : (shiftP i (smul (rv (q.getD i r0)) (p.map rv))).length = i + p.length := by
        unfold shiftP; rw [List.length_append, List.length_replicate, len_smul, List.length_map]
      omega
    have a1 := ref05_Add ((A i).map rq) ((trimP (shiftP i (smul (rv (q.getD i r0)) (p.map rv)))).map rq) (by rw [List.length_map]; have := lA i; omega) (by rw [List.length_map]; exact lS) (rqs_ok fun x hx => (oA i hi x hx).mono (by decide)) (rqs_ok oS)
    rw [map_rv_rqL, map_rv_rqL, sA i h3] at a1
    have a2 := a1.args (leQRs _ (leQRs _ (LeT.refl _)))
    generalize trimP (shiftP i (smul (rv (q.getD i r0)) (p.map rv))) = S at *
    clear oA lA sA op oq kp kq a1 oS lS
    repeat' (first
      | (show awpL _ _ _ _ _; first | refine goL ?_ | refine cl 67 tt rfl rfl rfl (hr := s1) (k := ?_) | refine cl 74 tt rfl rfl rfl (hr := a2) (k := ?_) | (refine gdLG ?_ ?_ <;> intro _ <;> try (exfalso; omega)))
      | (show awp _ _ _ _; first | refine goA ?_ | (refine cdG ?_ ?_ <;> intro _ <;> try (exfalso; omega)))
      | (show andThen _ _ _ _; refine goN ?_)
      | (show inBlock _ _ _ _; refine goB ?_)
      | (show retPost _ _ _ _ _; refine finG ?_))
    exact ⟨i + 1, by omega, by omega, ⟨rfl, rfl, rfl, iv (by omega), rfl⟩, trivial⟩
  · have e : i = q.length := by omega
    subst e
    clear oA lA sA op oq kp kq
    repeat' (first
      | (show awpL _ _ _ _ _; first | refine goL ?_ | (refine gdLG ?_ ?_ <;> intro _ <;> try (exfalso; omega)))
      | (show awp _ _ _ _; first | refine goA ?_ | (refine cdG ?_ ?_ <;> intro _ <;> try (exfalso; omega)))
      | (show andThen _ _ _ _; refine goN ?_)
      | (show inBlock _ _ _ _; refine goB ?_)
      | (show retPost _ _ _ _ _; refine finG ?_))
    rfl
end Go.Proofs.YtlphlodailailaaGreat
