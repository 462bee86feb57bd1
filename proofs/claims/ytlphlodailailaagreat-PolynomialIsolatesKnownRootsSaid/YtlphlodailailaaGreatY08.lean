/-
  A statement of the seat: what its contract is, and the claim. Conditions: as each says.
-/
import Derived.Test.YtlphlodailailaaGreatY07
import Derived.Test.YtlphlodailailaaGreatA10
set_option linter.unusedVariables false
set_option linter.unusedSimpArgs false
set_option maxHeartbeats 8000000
namespace Go.Proofs.YtlphlodailailaaGreat
open Go.Vw
attribute [local irreducible] awp awpL awpR

theorem polynomial_TrimQ (l : List Rat) (hn : l.length ≤ 1000) (hl : ∀ x ∈ l, okQ 10000000 x) : RetB Tryz.prog 60 [.d (rsD (l.map rq))] (lookB []) (qO (trimP l).length) (lookB [(500, qB (trimP l))]) := by
  have h := polynomial_TrimB (l.map rq) (by rw [List.length_map]; exact hn) (fun r hr => by
    obtain ⟨q, hq, rfl⟩ := List.mem_map.1 hr
    exact ok_rq (hl q hq))
  rwa [map_rv_rqL] at h
theorem polynomial_Div (a b : List R3) (K : Nat) (I : List Rat → Prop) (ha : a.length ≤ 100) (hb : b.length ≤ 100) (ka : ∀ r ∈ a, RatOk r 10000000) (kb : ∀ r ∈ b, RatOk r K) (d0 : trimP (b.map rv) ≠ []) (hI0 : I (trimP (a.map rv))) (hI1 : ∀ r, I r → Tr r → (trimP (b.map rv)).length ≤ r.length → I (stepRP r (trimP (b.map rv)))) (hI2 : ∀ r, I r → ∀ x ∈ r, okQ K x) (hK : 1 < K) (hK2 : K ≤ 2000000) : Ret Tryz.prog 32 [rsD a, rsD b] (· = .tup [qsD (divP (trimP (a.map rv)) (trimP (b.map rv))).1, qsD (divP (trimP (a.map rv)) (trimP (b.map rv))).2, .int .i64 0]) := by
  have ta := polynomial_TrimB a (by omega) ka
  have tb := polynomial_Trim b (by omega) (fun r hr => (kb r hr).up (by omega))
  have la := trim_len (a.map rv)
  have lb := trim_len (b.map rv)
  rw [List.length_map] at la lb
  have od : ∀ x ∈ trimP (b.map rv), okQ K x := fun x hx => by
    obtain ⟨r, hr, rfl⟩ := List.mem_map.1 (trim_mem hx)
    exact okQ_rv (kb r hr) hK
  have hpT := tr_trim (a.map rv)
  have hdT := tr_trim (b.map rv)
  generalize trimP (a.map rv) = p at *
  generalize trimP (b.map rv) = d at *
  clear ka kb
  have dl : 0 < d.length := ne_len d0
  obtain ⟨m, hm⟩ : ∃ m, (max (0 : Int) ((p.length : Int) - (d.length : Int) + 1)).toNat = m := ⟨_, rfl⟩
  have hm2 : m = p.length + 1 - d.length := by omega
  have ld0 : lead d ≠ 0 := lead_ne hdT d0
  have odl : okQ K (lead d) := ok_cf od hK _
  refine ret_of_awp tab Tryz.func32 rfl rfl (Nat.le_of_ble_eq_true rfl) (fun w0 F0 => ?_)
  repeat' (first
    | (show awpL _ _ _ _ _; first | refine goL ?_ | refine stepMake (mm := true) (en := rC) (z := r0) tt rfl rfl rfl rfl rfl rfl rfl rfl rfl rfl rfl rfl leL sc sc ?_ | refine stepMake (mm := false) (en := rC) (z := r0) tt rfl rfl rfl rfl rfl rfl rfl rfl rfl rfl rfl rfl leL sc sc ?_ | refine clB 60 [500] (ta) tt rfl rfl rfl rfl rfl rfl leVT allB ?_ | refine cl 60 tt rfl rfl rfl (hr := tb) (k := ?_) | (refine gdLG ?_ ?_ <;> intro _ <;> try (exfalso; omega)))
    | (show awp _ _ _ _; first | refine goA ?_ | refine rg 7 20 ?_ | refine rg 11 17 ?_ | (refine cdG ?_ ?_ <;> intro _ <;> try (exfalso; omega)))
    | (show andThen _ _ _ _; refine goN ?_)
    | (show inBlock _ _ _ _; refine goB ?_)
    | (show awpR _ _ _ _ _ _ _; first | refine goR ?_ | refine clR 60 tt rfl rfl rfl (hr := tb) (k := ?_) | (refine gdRG ?_ ?_ <;> intro _ <;> try (exfalso; omega)))
    | (show retPost _ _ _ _ _; refine finG ?_)
    | (show retPostB _ _ _ _ _ _; first | refine finB rfl rfl ?_ ?_ | refine finBT rfl rfl rfl ?_ ?_))
  refine awp_loop1 (fun (x : (Nat → Rat) × List Rat) => ([(1, .d (qsD d)), (4, .own 24 0 m 29 3), (5, qO x.2.length)], [(24, .data 29 3 rC r0 (rqL m x.1)), (500, qB x.2)])) (fun x => I x.2 ∧ Tr x.2 ∧ x.2.length ≤ p.length ∧ (∀ k, k + d.length ≤ x.2.length → x.1 k = 0) ∧ (∀ k, okQ (2 * K) (x.1 k)) ∧ Eqv (addC (mulC ((List.range m).map x.1) d) x.2) p) (fun x => x.2.length) (fun _ => 0, p) ⟨hI0, hpT, Nat.le_refl _, fun _ _ => rfl, fun _ => okQ_zero (by omega), divP_start⟩ ⟨rfl, ownEq hm, rfl, rfl⟩ ⟨blkEq (by rw [← rqL_zero m (fun _ => rfl), hm]), rfl, trivial⟩ (fun x hx => ?_)
  obtain ⟨v, r⟩ := x
  obtain ⟨i1, i2, i3, i4, i5, i6⟩ := hx
  dsimp only at i1 i2 i3 i4 i5 i6 ⊢
  have hl1 := rqL_len m v
  by_cases h3 : d.length ≤ r.length
  · have or := hI2 r i1
    obtain ⟨k, hk⟩ : ∃ k, remK r d = k := ⟨_, rfl⟩
    have hk2 : k = r.length - d.length := hk.symm
    obtain ⟨c, hc⟩ : ∃ c, remC r d = c := ⟨_, rfl⟩
    have oc : okQ (2 * K) c := by
      rw [← hc, Nat.two_mul]; exact (ok_cf or hK _).div odl ld0
    have d1 := rational_Div (rq (r.getD (r.length - 1) 0)) (rq (d.getD (d.length - 1) 0)) (ok_rq ((ok_cf or hK _).mono (by omega))) (ok_rq ((ok_cf od hK _).mono (by omega)))
    rw [rv_rq, rv_rq, if_neg (show ¬ d.getD (d.length - 1) 0 = 0 from ld0), show r.getD (r.length - 1) 0 / d.getD (d.length - 1) 0 = c from hc] at d1
    have e1 : ((r.length : Int) - 1).toNat = r.length - 1 := by omega
    have e2 : ((d.length : Int) - 1).toNat = d.length - 1 := by omega
    have e3 : ((r.length : Int) - (d.length : Int)).toNat = k := by omega
    rw [← e1, ← e2] at d1
    have es := rqL_set (m := m) (v := v) (v' := updQ v k c) (k := k) (x := c) (by unfold updQ; rw [if_pos rfl]) (fun j hj => by unfold updQ; rw [if_neg hj])
    have eg := rqL_getD (m := m) (v := updQ v k c) (k := k) (by omega)
    rw [show updQ v k c k = c by unfold updQ; rw [if_pos rfl]] at eg
    have hst := updQ_step (m := m) (p := p) (i4 _ (by rw [hk]; omega)) (by rw [hk]; omega) i6
    have hrl := stepRP_len i2 hdT d0 h3
    have hra := rowR_all h3
    rw [hk, hc] at hst hra
    have ht := polynomial_TrimQ (rowR r d k c d.length) (by rw [rowR_len]; omega) (fun x hx => (rowR_ok or od oc hK _ x hx).mono (by omega))
    rw [hra] at ht
    have hI := hI1 r i1 i2 h3
    have htr : Tr (stepRP r d) := tr_trim _
    have ov : ∀ j, okQ (2 * K) (updQ v k c j) := fun j => by
      unfold updQ
      split
      · exact oc
      · exact i5 j
    have fin : ∀ j, j + d.length ≤ (stepRP r d).length → updQ v k c j = 0 := fun j hj => by
      unfold updQ
      rw [if_neg (by omega)]
      exact i4 j (by omega)
    have hro := fun i => rowR_ok (k := k) (i := i) or od oc hK
    generalize stepRP r d = r2 at *
    have hl3 := rqL_len m (updQ v k c)
    obtain ⟨L1, hL1⟩ : ∃ L1, rqL m v = L1 := ⟨_, rfl⟩
    rw [hL1] at hl1 es ⊢
    obtain ⟨L2, hL2⟩ : ∃ L2, rqL m (updQ v k c) = L2 := ⟨_, rfl⟩
    rw [hL2] at hl3 es eg
    repeat' (first
      | (show awpL _ _ _ _ _; first | refine goL ?_ | refine cl 79 tt rfl rfl rfl (hr := d1) (k := ?_) | (refine gdLG ?_ ?_ <;> intro _ <;> try (exfalso; omega)))
      | (show awp _ _ _ _; first | refine stopA 9 tt ?_)
      | (show awp _ _ _ _; first | refine goA ?_ | refine rg 7 20 ?_ | refine rg 11 17 ?_ | (refine cdG ?_ ?_ <;> intro _ <;> try (exfalso; omega)))
      | (show andThen _ _ _ _; refine goN ?_)
      | (show inBlock _ _ _ _; refine goB ?_)
      | (show awpR _ _ _ _ _ _ _; first | refine goR ?_ | refine clR 79 tt rfl rfl rfl (hr := d1) (k := ?_) | (refine gdRG ?_ ?_ <;> intro _ <;> try (exfalso; omega)))
      | (show retPost _ _ _ _ _; refine finG ?_)
      | (show retPostB _ _ _ _ _ _; first | refine finB rfl rfl ?_ ?_ | refine finBT rfl rfl rfl ?_ ?_))
    refine stopOut ?_
    repeat' (first
      | (show awpL _ _ _ _ _; first | refine goL ?_ | (refine gdLG ?_ ?_ <;> intro _ <;> try (exfalso; omega)))
      | (show awp _ _ _ _; first | refine goA ?_ | refine rg 7 20 ?_ | refine rg 11 17 ?_ | (refine cdG ?_ ?_ <;> intro _ <;> try (exfalso; omega)))
      | (show andThen _ _ _ _; refine goN ?_)
      | (show inBlock _ _ _ _; refine goB ?_)
      | (show awpR _ _ _ _ _ _ _; first | refine goR ?_ | (refine gdRG ?_ ?_ <;> intro _ <;> try (exfalso; omega)))
      | (show retPost _ _ _ _ _; refine finG ?_)
      | (show retPostB _ _ _ _ _ _; first | refine finB rfl rfl ?_ ?_ | refine finBT rfl rfl rfl ?_ ?_))
    refine awp_loop1 (fun (i : Nat) => ([(1, .d (qsD d)), (4, .own 24 0 m 29 3), (5, qO r.length), (7, .d (.int .i64 k)), (54, .d (qsD d)), (55, .d (.int .i64 d.length)), (56, .d (.int .i64 i))], [(24, .data 29 3 rC r0 L2), (500, qB (rowR r d k c i))])) (fun i => i ≤ d.length) (fun i => d.length - i) 0 (by omega) ⟨rfl, rfl, rfl, iv (by omega), rfl, rfl, rfl, rfl⟩ ⟨blkEq (by rw [e3]; exact es), blkEq (rowR_zero r d k c).symm, trivial⟩ (fun i hi => ?_)
    have hrl2 := rowR_len r d k c i
    by_cases h4 : i < d.length
    · have m1 := rational_Mul (rq c) (rq (d.getD i 0)) (ok_rq (oc.mono (by omega))) (ok_rq ((ok_cf od hK i).mono (by omega)))
      have s1 := rational_Sub (rq ((rowR r d k c i).getD (k + i) 0)) (rq (c * d.getD i 0)) (ok_rq ((ok_cf (hro i) (by omega) _).mono (by omega))) (ok_rq ((oc.mul (ok_cf od hK i)).mono (by omega)))
      rw [rv_rq, rv_rq] at m1 s1
      have hs := rowR_set (r := r) (d := d) (k := k) (c := c) (i := i) (by omega)
      rw [← eg] at m1
      generalize (rowR r d k c i).getD (k + i) 0 - c * d.getD i 0 = z at *
      generalize c * d.getD i 0 = y at *
      obtain ⟨B, hB⟩ : ∃ B, rowR r d k c (i + 1) = B := ⟨_, rfl⟩
      rw [hB] at hs
      generalize rowR r d k c i = A at *
      clear hI0 hI1 hI2 or od hro ov fin i4 i5 i6 hst es hL1 hL2 ta tb ht d1
      repeat' (first
        | (show awpL _ _ _ _ _; first | refine goL ?_ | refine cl 81 tt rfl rfl rfl (hr := m1) (k := ?_) | refine cl 80 tt rfl rfl rfl (hr := s1) (k := ?_) | (refine gdLG ?_ ?_ <;> intro _ <;> try (exfalso; omega)))
        | (show awp _ _ _ _; first | refine goA ?_ | refine rg 7 20 ?_ | refine rg 11 17 ?_ | (refine cdG ?_ ?_ <;> intro _ <;> try (exfalso; omega)))
        | (show andThen _ _ _ _; refine goN ?_)
        | (show inBlock _ _ _ _; refine goB ?_)
        | (show awpR _ _ _ _ _ _ _; first | refine goR ?_ | refine clR 81 tt rfl rfl rfl (hr := m1) (k := ?_) | refine clR 80 tt rfl rfl rfl (hr := s1) (k := ?_) | (refine gdRG ?_ ?_ <;> intro _ <;> try (exfalso; omega)))
        | (show retPost _ _ _ _ _; refine finG ?_)
        | (show retPostB _ _ _ _ _ _; first | refine finB rfl rfl ?_ ?_ | refine finBT rfl rfl rfl ?_ ?_))
      exact ⟨i + 1, by omega, by omega, ⟨rfl, rfl, rfl, rfl, rfl, rfl, iv (by omega), rfl⟩, rfl, blkEq (hs.trans hB.symm), trivial⟩
    · have e : i = d.length := by omega
      subst e
      generalize rowR r d k c d.length = A at *
      repeat' (first
        | (show awpL _ _ _ _ _; first | refine goL ?_ | (refine gdLG ?_ ?_ <;> intro _ <;> try (exfalso; omega)))
        | (show awp _ _ _ _; first | refine stopA 13 tt ?_)
        | (show awp _ _ _ _; first | refine goA ?_ | refine rg 7 20 ?_ | refine rg 11 17 ?_ | (refine cdG ?_ ?_ <;> intro _ <;> try (exfalso; omega)))
        | (show andThen _ _ _ _; refine goN ?_)
        | (show inBlock _ _ _ _; refine goB ?_)
        | (show awpR _ _ _ _ _ _ _; first | refine goR ?_ | (refine gdRG ?_ ?_ <;> intro _ <;> try (exfalso; omega)))
        | (show retPost _ _ _ _ _; refine finG ?_)
        | (show retPostB _ _ _ _ _ _; first | refine finB rfl rfl ?_ ?_ | refine finBT rfl rfl rfl ?_ ?_))
      refine stopOut ?_
      refine awp_conv ((Conv.frz 500 (b := qB A) rfl).trans (Conv.cast 5 (rsD (A.map rq)) rfl ((LeD.cutAll (by rw [hrl2])).trans (leQR A)))) ?_
      repeat' (first
        | (show awpL _ _ _ _ _; first | refine goL ?_ | refine clB 60 [500] (ht) tt rfl rfl rfl rfl rfl rfl leVT allB ?_ | (refine gdLG ?_ ?_ <;> intro _ <;> try (exfalso; omega)))
        | (show awp _ _ _ _; first | refine goA ?_ | refine rg 7 20 ?_ | refine rg 11 17 ?_ | (refine cdG ?_ ?_ <;> intro _ <;> try (exfalso; omega)))
        | (show andThen _ _ _ _; refine goN ?_)
        | (show inBlock _ _ _ _; refine goB ?_)
        | (show awpR _ _ _ _ _ _ _; first | refine goR ?_ | (refine gdRG ?_ ?_ <;> intro _ <;> try (exfalso; omega)))
        | (show retPost _ _ _ _ _; refine finG ?_)
        | (show retPostB _ _ _ _ _ _; first | refine finB rfl rfl ?_ ?_ | refine finBT rfl rfl rfl ?_ ?_))
      exact ⟨(updQ v k c, r2), ⟨hI, htr, Nat.le_trans (Nat.le_of_lt hrl) i3, fin, ov, hst⟩, hrl, ⟨rfl, rfl, rfl, rfl⟩, blkEq hL2.symm, rfl, trivial⟩
  · have hd := divP_end hpT hdT d0 i2 (by omega) i6
    have tm := polynomial_Trim (rqL m v) (by omega) (rqL_ok fun k => (i5 k).mono (by omega))
    rw [rqL_rv] at tm
    rw [hd]
    dsimp only
    generalize trimP (List.map v (List.range m)) = R at *
    generalize rqL m v = L at *
    clear hI0 hI1 hI2 od i4 i5 i6 ta tb hd
    repeat' (first
      | (show awpL _ _ _ _ _; first | refine goL ?_ | (refine gdLG ?_ ?_ <;> intro _ <;> try (exfalso; omega)))
      | (show awp _ _ _ _; first | refine stopA 14 tt ?_)
      | (show awp _ _ _ _; first | refine goA ?_ | refine rg 7 20 ?_ | refine rg 11 17 ?_ | (refine cdG ?_ ?_ <;> intro _ <;> try (exfalso; omega)))
      | (show andThen _ _ _ _; refine goN ?_)
      | (show inBlock _ _ _ _; refine goB ?_)
      | (show awpR _ _ _ _ _ _ _; first | refine goR ?_ | (refine gdRG ?_ ?_ <;> intro _ <;> try (exfalso; omega)))
      | (show retPost _ _ _ _ _; refine finG ?_)
      | (show retPostB _ _ _ _ _ _; first | refine finB rfl rfl ?_ ?_ | refine finBT rfl rfl rfl ?_ ?_))
    refine stopOut ?_
    refine awp_conv ((Conv.frz 500 (b := qB r) rfl).trans (Conv.cast 5 (qsD r) rfl LeD.full)) ?_
    repeat' (first
      | (show awpL _ _ _ _ _; first | refine goL ?_ | refine cl 60 tt rfl rfl rfl (hr := tm) (k := ?_) | (refine gdLG ?_ ?_ <;> intro _ <;> try (exfalso; omega)))
      | (show awp _ _ _ _; first | refine goA ?_ | refine rg 7 20 ?_ | refine rg 11 17 ?_ | (refine cdG ?_ ?_ <;> intro _ <;> try (exfalso; omega)))
      | (show andThen _ _ _ _; refine goN ?_)
      | (show inBlock _ _ _ _; refine goB ?_)
      | (show awpR _ _ _ _ _ _ _; first | refine goR ?_ | refine clR 60 tt rfl rfl rfl (hr := tm) (k := ?_) | (refine gdRG ?_ ?_ <;> intro _ <;> try (exfalso; omega)))
      | (show retPost _ _ _ _ _; refine finTG ?_)
      | (show retPostB _ _ _ _ _ _; first | refine finB rfl rfl ?_ ?_ | refine finBT rfl rfl rfl ?_ ?_))
    exact LeT.refl _
end Go.Proofs.YtlphlodailailaaGreat
