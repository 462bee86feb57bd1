/-
  A statement of the seat: what its contract is, and the claim. Conditions: as each says.
-/
import Derived.Test.YtlphlodailailaaGreatY16
import Derived.Test.YtlphlodailailaaGreatA10
set_option linter.unusedVariables false
set_option linter.unusedSimpArgs false
set_option maxHeartbeats 8000000
namespace Go.Proofs.YtlphlodailailaaGreat
open Go.Vw
attribute [local irreducible] awp awpL awpR

theorem ref05_coefficient (l : List R3) (i : Nat) (hl : l.length ≤ 1000) (hi : i ≤ 2000) : Ret Tryz.prog 113 [rsD l, .int .i64 i] (· = rD (l.getD i r0)) := by
  by_cases h : i < l.length
  · refine ret_of_awp tab Tryz.func113 rfl rfl (Nat.le_of_ble_eq_true rfl) (fun w0 F0 => ?_)
    repeat' (first
      | (show awpL _ _ _ _ _; first | refine goL ?_ | (refine gdLG ?_ ?_ <;> intro _ <;> try (exfalso; omega)))
      | (show awp _ _ _ _; first | refine goA ?_ | (refine cdG ?_ ?_ <;> intro _ <;> try (exfalso; omega)))
      | (show andThen _ _ _ _; refine goN ?_)
      | (show inBlock _ _ _ _; refine goB ?_)
      | (show retPost _ _ _ _ _; refine finG ?_))
    rfl
  · rw [show l.getD i r0 = r0 by rw [List.getD_eq_getElem?_getD, List.getElem?_eq_none (by omega)]; rfl]
    refine ret_of_awp tab Tryz.func113 rfl rfl (Nat.le_of_ble_eq_true rfl) (fun w0 F0 => ?_)
    repeat' (first
      | (show awpL _ _ _ _ _; first | refine goL ?_ | (refine gdLG ?_ ?_ <;> intro _ <;> try (exfalso; omega)))
      | (show awp _ _ _ _; first | refine goA ?_ | (refine cdG ?_ ?_ <;> intro _ <;> try (exfalso; omega)))
      | (show andThen _ _ _ _; refine goN ?_)
      | (show inBlock _ _ _ _; refine goB ?_)
      | (show retPost _ _ _ _ _; first | refine finF true rfl rfl sc ?_ | refine finF false rfl rfl sc ?_ | refine finC false rfl rfl sc sc ?_ | refine finN rfl rfl sc ?_ | refine finL true rfl rfl sc rfl (LeR.cons rfl leL LeR.nil) ?_ | refine finA true rfl rfl sc ?_ | refine finA false rfl rfl sc ?_ | refine finE true rfl rfl sc ?_ | refine finE false rfl rfl sc ?_))
    exact leL
theorem ref05_TrimQ (l : List Rat) (hn : l.length ≤ 1000) (hl : ∀ x ∈ l, okQ 10000000 x) : Ret Tryz.prog 44 [qsD l] (· = qsD (trimP l)) := by
  have h := ref05_Trim (l.map rq) (by rw [List.length_map]; exact hn) (rqs_ok hl)
  rw [map_rv_rqL] at h
  exact h.args (leQRs l (LeT.refl _))
theorem range_snoc (g : Nat → Rat) (i : Nat) : (List.range i).map g ++ [g i] = (List.range (i + 1)).map g := by rw [List.range_succ, List.map_append]; rfl
theorem ref05_Add (p q : List R3) (hp : p.length ≤ 500) (hq : q.length ≤ 500) (kp : ∀ r ∈ p, RatOk r 5000000) (kq : ∀ r ∈ q, RatOk r 5000000) : Ret Tryz.prog 74 [rsD p, rsD q] (· = qsD (trimP (addC (p.map rv) (q.map rv)))) := by
  obtain ⟨m, hm⟩ : ∃ m, max p.length q.length = m := ⟨_, rfl⟩
  obtain ⟨g, hg⟩ : ∃ g : Nat → Rat, ∀ i, g i = rv (p.getD i r0) + rv (q.getD i r0) := ⟨fun i => rv (p.getD i r0) + rv (q.getD i r0), fun _ => rfl⟩
  have e : trimP ((List.range m).map g) = trimP (addC (p.map rv) (q.map rv)) := trim_ext fun i => by
    rw [cf_range, cf_add, hg, cf_rvs, cf_rvs]
    split
    · rfl
    · rw [cf_ge (by rw [List.length_map]; omega), cf_ge (by rw [List.length_map]; omega)]; grind
  have og : ∀ i, okQ 10000000 (g i) := fun i => by
    rw [hg]; exact (okQ_rv (ok_getD kp (by decide) i) (by decide)).add (okQ_rv (ok_getD kq (by decide) i) (by decide))
  have tm := ref05_TrimQ ((List.range m).map g) (by simp; omega) (fun x hx => by
    obtain ⟨i, _, rfl⟩ := List.mem_map.1 hx
    exact og i)
  rw [e] at tm
  generalize trimP (addC (p.map rv) (q.map rv)) = R at *
  clear e
  refine ret_of_awp tab Tryz.func74 rfl rfl (Nat.le_of_ble_eq_true rfl) (fun w0 F0 => ?_)
  repeat' (first
    | (show awpL _ _ _ _ _; first | refine goL ?_ | (refine gdLG ?_ ?_ <;> intro _ <;> try (exfalso; omega)))
    | (show awp _ _ _ _; first | refine goA ?_ | (refine cdG ?_ ?_ <;> intro _ <;> try (exfalso; omega)))
    | (show andThen _ _ _ _; refine goN ?_)
    | (show inBlock _ _ _ _; refine goB ?_)
    | (show retPost _ _ _ _ _; refine finG ?_))
  refine awp_adopt 5 500 29 3 qC 0 rfl ?_
  refine awp_loop1 (fun (i : Nat) => ([(0, .d (rsD p)), (1, .d (rsD q)), (5, qO i), (6, .d (.int .i64 i))], [(500, qB ((List.range i).map g))])) (fun i => i ≤ m) (fun i => m - i) 0 (by omega) ⟨rfl, rfl, rfl, rfl, rfl⟩ ⟨rfl, trivial⟩ (fun i hi => ?_)
  have hlq : ((List.range i).map g).length = i := by simp
  by_cases h3 : i < m
  · have c1 := ref05_coefficient p i (by omega) (by omega)
    have c2 := ref05_coefficient q i (by omega) (by omega)
    have a1 := ref03_Add (p.getD i r0) (q.getD i r0) ((ok_getD kp (by decide) i).up (by decide)) ((ok_getD kq (by decide) i).up (by decide))
    rw [← hg i] at a1
    have et := range_snoc g i
    obtain ⟨B, hB⟩ : ∃ B, (List.range (i + 1)).map g = B := ⟨_, rfl⟩
    rw [hB] at et
    generalize (List.range i).map g = A at *
    generalize g i = x at *
    clear kp kq hg og tm
    repeat' (first
      | (show awpL _ _ _ _ _; first | refine goL ?_ | refine cl 113 tt rfl rfl rfl (hr := c1) (k := ?_) | refine cl 113 tt rfl rfl rfl (hr := c2) (k := ?_) | refine cl 38 tt rfl rfl rfl (hr := a1) (k := ?_) | (refine gdLG ?_ ?_ <;> intro _ <;> try (exfalso; omega)))
      | (show awp _ _ _ _; first | refine goA ?_ | (refine cdG ?_ ?_ <;> intro _ <;> try (exfalso; omega)))
      | (show andThen _ _ _ _; refine goN ?_)
      | (show inBlock _ _ _ _; refine goB ?_)
      | (show retPost _ _ _ _ _; refine finG ?_))
    exact ⟨i + 1, by omega, by omega, ⟨rfl, rfl, ownEq (by rw [List.length_append, hlq]; rfl), iv (by omega), rfl⟩, blkEq (et.trans hB.symm), trivial⟩
  · have e : i = m := by omega
    subst e
    generalize (List.range i).map g = A at *
    clear kp kq hg og
    repeat' (first
      | (show awpL _ _ _ _ _; first | refine goL ?_ | refine cl 44 tt rfl rfl rfl (hr := tm) (k := ?_) | (refine gdLG ?_ ?_ <;> intro _ <;> try (exfalso; omega)))
      | (show awp _ _ _ _; first | refine goA ?_ | (refine cdG ?_ ?_ <;> intro _ <;> try (exfalso; omega)))
      | (show andThen _ _ _ _; refine goN ?_)
      | (show inBlock _ _ _ _; refine goB ?_)
      | (show retPost _ _ _ _ _; refine finG ?_))
    rfl
theorem ref05_scaled (p : List R3) (c : R3) (k : Nat) (hp : p.length ≤ 400) (hk : k ≤ 400) (kp : ∀ r ∈ p, RatOk r 5000000) (kc : RatOk c 5000000) : Ret Tryz.prog 67 [rsD p, rD c, .int .i64 k] (· = qsD (trimP (shiftP k (smul (rv c) (p.map rv))))) := by
  obtain ⟨g, hg⟩ : ∃ g : Nat → Rat, ∀ i, g i = rv (p.getD i r0) * rv c := ⟨fun i => rv (p.getD i r0) * rv c, fun _ => rfl⟩
  have og : ∀ i, okQ 10000000 (g i) := fun i => by
    rw [hg]; exact (okQ_rv (ok_getD kp (by decide) i) (by decide)).mul (okQ_rv kc (by decide))
  have e : (List.replicate k r0 ++ ((List.range p.length).map g).map rq).map rv = shiftP k (smul (rv c) (p.map rv)) := by
    rw [List.map_append, List.map_replicate, rv_r0, map_rv_rqL, smul_getD (rv c) p g (fun i => by rw [hg, Rat.mul_comm])]
    rfl
  have tm := ref05_Trim (List.replicate k r0 ++ ((List.range p.length).map g).map rq) (by simp; omega) (fun r hr => by
    rcases List.mem_append.1 hr with h | h
    · rw [(List.mem_replicate.1 h).2]
      have h2 := ok_rq (q := 0) (k := 10000000) (okQ_zero (by decide))
      rwa [show rq 0 = r0 by decide +kernel] at h2
    · obtain ⟨x, hx, rfl⟩ := List.mem_map.1 h
      obtain ⟨i, _, rfl⟩ := List.mem_map.1 hx
      exact ok_rq (og i))
  rw [e] at tm
  generalize trimP (shiftP k (smul (rv c) (p.map rv))) = R at *
  clear e
  refine ret_of_awp tab Tryz.func67 rfl rfl (Nat.le_of_ble_eq_true rfl) (fun w0 F0 => ?_)
  repeat' (first
    | (show awpL _ _ _ _ _; first | refine goL ?_ | refine stepMake (mm := true) (en := rC) (z := r0) tt rfl rfl rfl rfl rfl rfl rfl rfl rfl rfl rfl rfl leL sc sc ?_ | refine stepMake (mm := false) (en := rC) (z := r0) tt rfl rfl rfl rfl rfl rfl rfl rfl rfl rfl rfl rfl leL sc sc ?_ | (refine gdLG ?_ ?_ <;> intro _ <;> try (exfalso; omega)))
    | (show awp _ _ _ _; first | refine goA ?_ | refine rg 5 8 ?_ | (refine cdG ?_ ?_ <;> intro _ <;> try (exfalso; omega)))
    | (show andThen _ _ _ _; refine goN ?_)
    | (show inBlock _ _ _ _; refine goB ?_)
    | (show awpR _ _ _ _ _ _ _; first | refine goR ?_ | (refine gdRG ?_ ?_ <;> intro _ <;> try (exfalso; omega)))
    | (show retPost _ _ _ _ _; refine finG ?_))
  refine awp_loop1 (fun (i : Nat) => ([(0, .d (rsD p)), (4, .ptr 4 0), (7, .own 10 0 (k + i) 29 3), (8, .d (.int .i64 i))], [(4, .box 29 ((rC c).map V.d)), (10, .data 29 3 rC r0 (List.replicate k r0 ++ ((List.range i).map g).map rq))])) (fun i => i ≤ p.length) (fun i => p.length - i) 0 (by omega) ⟨rfl, rfl, rfl, rfl, rfl⟩ ⟨rfl, blkEq (by simp), trivial⟩ (fun i hi => ?_)
  have hlq : (List.replicate k r0 ++ ((List.range i).map g).map rq).length = k + i := by simp
  by_cases h3 : i < p.length
  · have m1 := ref03_Mul (p.getD i r0) c ((ok_getD kp (by decide) i).up (by decide)) (kc.up (by decide))
    rw [← hg i] at m1
    have et : (List.replicate k r0 ++ ((List.range i).map g).map rq) ++ [rq (g i)] = List.replicate k r0 ++ ((List.range (i + 1)).map g).map rq := by
      rw [← range_snoc g i, List.map_append, List.append_assoc]; rfl
    obtain ⟨B, hB⟩ : ∃ B, List.replicate k r0 ++ ((List.range (i + 1)).map g).map rq = B := ⟨_, rfl⟩
    rw [hB] at et
    generalize List.replicate k r0 ++ ((List.range i).map g).map rq = A at *
    generalize g i = x at *
    clear kp kc hg og tm
    repeat' (first
      | (show awpL _ _ _ _ _; first | refine goL ?_ | refine cl 41 tt rfl rfl rfl (hr := m1) (k := ?_) | (refine gdLG ?_ ?_ <;> intro _ <;> try (exfalso; omega)))
      | (show awp _ _ _ _; first | refine goA ?_ | refine rg 5 8 ?_ | (refine cdG ?_ ?_ <;> intro _ <;> try (exfalso; omega)))
      | (show andThen _ _ _ _; refine goN ?_)
      | (show inBlock _ _ _ _; refine goB ?_)
      | (show awpR _ _ _ _ _ _ _; first | refine goR ?_ | refine clR 41 tt rfl rfl rfl (hr := m1) (k := ?_) | (refine gdRG ?_ ?_ <;> intro _ <;> try (exfalso; omega)))
      | (show retPost _ _ _ _ _; refine finG ?_))
    exact ⟨i + 1, by omega, by omega, ⟨rfl, rfl, ownEq (by rw [List.length_append, hlq]; rfl), iv (by omega), rfl⟩, rfl, blkEq (et.trans hB.symm), trivial⟩
  · have e : i = p.length := by omega
    subst e
    generalize List.replicate k r0 ++ ((List.range p.length).map g).map rq = A at *
    clear kp kc hg og
    repeat' (first
      | (show awpL _ _ _ _ _; first | refine goL ?_ | refine cl 44 tt rfl rfl rfl (hr := tm) (k := ?_) | (refine gdLG ?_ ?_ <;> intro _ <;> try (exfalso; omega)))
      | (show awp _ _ _ _; first | refine goA ?_ | refine rg 5 8 ?_ | (refine cdG ?_ ?_ <;> intro _ <;> try (exfalso; omega)))
      | (show andThen _ _ _ _; refine goN ?_)
      | (show inBlock _ _ _ _; refine goB ?_)
      | (show awpR _ _ _ _ _ _ _; first | refine goR ?_ | refine clR 44 tt rfl rfl rfl (hr := tm) (k := ?_) | (refine gdRG ?_ ?_ <;> intro _ <;> try (exfalso; omega)))
      | (show retPost _ _ _ _ _; refine finG ?_))
    rfl
end Go.Proofs.YtlphlodailailaaGreat
