/-
  A statement of the seat: what its contract is, and the claim. Conditions: as each says.
-/
import Derived.Test.YtlphlodailailaaGreatY24
import Derived.Test.YtlphlodailailaaGreatA10
set_option linter.unusedVariables false
set_option linter.unusedSimpArgs false
set_option maxHeartbeats 8000000
namespace Go.Proofs.YtlphlodailailaaGreat
open Go.Vw
attribute [local irreducible] awp awpL awpR

theorem ref05_EvalB (l : List R3) (x : R3) (hn : l.length ≤ 1000) (ho : ∀ r ∈ l, RatOk r 5000000) (hx : RatOk x 4000000) (hk : ∀ k, k ≤ l.length → okQ 5000000 (hornK (l.map rv) (rv x) k)) : Ret Tryz.prog 48 [rsD l, rD x] (· = qD (evalP (l.map rv) (rv x))) := by
  rw [show evalP (l.map rv) (rv x) = hornK (l.map rv) (rv x) l.length from by rw [← horn_all, List.length_map]]
  obtain ⟨H, hH⟩ : ∃ H, hornK (l.map rv) (rv x) = H := ⟨_, rfl⟩
  have h0 : H 0 = 0 := by rw [← hH]; exact horn_zero _ _
  have hs : ∀ k, k < l.length → H (k + 1) = H k * rv x + rv (l.getD ((l.length : Int) - 1 - k).toNat r0) := fun k hk => by
    rw [← hH, horn_succ (by simpa using hk), List.length_map, gRv (by omega), show ((l.length : Int) - 1 - k).toNat = l.length - 1 - k by omega]
  rw [hH] at hk ⊢
  clear hH
  refine ret_of_awp tab Tryz.func48 rfl rfl (Nat.le_of_ble_eq_true rfl) (fun w0 F0 => ?_)
  repeat' (first
    | (show awpL _ _ _ _ _; first | refine goL ?_ | (refine gdLG ?_ ?_ <;> intro _ <;> try (exfalso; omega)))
    | (show awp _ _ _ _; first | refine goA ?_ | refine rg 5 7 ?_ | (refine cdG ?_ ?_ <;> intro _ <;> try (exfalso; omega)))
    | (show andThen _ _ _ _; refine goN ?_)
    | (show inBlock _ _ _ _; refine goB ?_)
    | (show awpR _ _ _ _ _ _ _; first | refine goR ?_ | (refine gdRG ?_ ?_ <;> intro _ <;> try (exfalso; omega)))
    | (show retPost _ _ _ _ _; refine finG ?_))
  refine awp_conv ((Conv.box 5 (cs := [.bool false, .nils, .nils]) (rC r0) rfl leL).trans (Conv.box 4 (cs := [.bool false, .nils, .nils]) (rC r0) rfl leL)) ?_
  refine awp_loop1 (fun (k : Nat) => ([(0, .d (rsD l)), (3, .ptr 3 0), (4, .ptr 4 0), (5, .ptr 5 0), (6, .d (.int .i64 ((l.length : Int) - 1 - k)))], [(3, .box 29 ((rC x).map V.d)), (4, .box 29 ((rC r0).map V.d)), (5, .box 29 ((rC (rq (H k))).map V.d))])) (fun k => k ≤ l.length) (fun k => l.length - k) 0 (by omega) ⟨rfl, rfl, rfl, rfl, iv (by omega), rfl⟩ ⟨rfl, rfl, (by rw [h0, rq_zero']; rfl), trivial⟩ (fun k hi => ?_)
  by_cases h3 : k < l.length
  · have g1 : RatOk (l.getD ((l.length : Int) - 1 - k).toNat r0) 5000000 := gMem ho (by omega)
    have g2 := hk k (by omega)
    have m1 := ref03_Mul (rq (H k)) x (ok_rq (g2.mono (by decide))) (hx.up (by decide))
    have oq : okQ 10000000 (H k * rv x) := (g2.mul (okQ_rv hx (by decide))).mono (by decide)
    rw [rv_rq] at m1
    have a1 := ref03_Add (rq (H k * rv x)) (l.getD ((l.length : Int) - 1 - k).toNat r0) (ok_rq (oq.mono (by decide))) (g1.up (by decide))
    rw [rv_rq, ← hs k h3] at a1
    clear ho hk hs
    repeat' (first
      | (show awpL _ _ _ _ _; first | refine goL ?_ | refine cl 41 tt rfl rfl rfl (hr := m1) (k := ?_) | refine cl 38 tt rfl rfl rfl (hr := a1) (k := ?_) | (refine gdLG ?_ ?_ <;> intro _ <;> try (exfalso; omega)))
      | (show awp _ _ _ _; first | refine goA ?_ | refine rg 5 7 ?_ | (refine cdG ?_ ?_ <;> intro _ <;> try (exfalso; omega)))
      | (show andThen _ _ _ _; refine goN ?_)
      | (show inBlock _ _ _ _; refine goB ?_)
      | (show awpR _ _ _ _ _ _ _; first | refine goR ?_ | refine clR 41 tt rfl rfl rfl (hr := m1) (k := ?_) | refine clR 38 tt rfl rfl rfl (hr := a1) (k := ?_) | (refine gdRG ?_ ?_ <;> intro _ <;> try (exfalso; omega)))
      | (show retPost _ _ _ _ _; refine finG ?_))
    exact ⟨k + 1, by omega, by omega, ⟨rfl, rfl, rfl, rfl, iv (by omega), rfl⟩, rfl, rfl, rfl, trivial⟩
  · have e : k = l.length := by omega
    subst e
    clear ho hk hs
    repeat' (first
      | (show awpL _ _ _ _ _; first | refine goL ?_ | (refine gdLG ?_ ?_ <;> intro _ <;> try (exfalso; omega)))
      | (show awp _ _ _ _; first | refine goA ?_ | refine rg 5 7 ?_ | (refine cdG ?_ ?_ <;> intro _ <;> try (exfalso; omega)))
      | (show andThen _ _ _ _; refine goN ?_)
      | (show inBlock _ _ _ _; refine goB ?_)
      | (show awpR _ _ _ _ _ _ _; first | refine goR ?_ | (refine gdRG ?_ ?_ <;> intro _ <;> try (exfalso; omega)))
      | (show retPost _ _ _ _ _; refine finG ?_))
    rfl
theorem ref05_EvalF (f : List Rat) (x : R3) {M : Nat} (hf : Fit f.length f M) (hl : f.length ≤ 13) (hx : RatOk x 200000) : Ret Tryz.prog 48 [qsD f, rD x] (· = qD (evalP f (rv x))) ∧ okQ 10000000 (evalP f (rv x)) := by
  obtain ⟨h1, h2⟩ := hf
  have m1 := HtP.gt h1
  have hk : f.length * M ≤ 2000000 := by
    have a1 := Nat.mul_le_mul (show M ≤ M + 1 by omega) (Nat.le_trans (Nat.le_succ f.length) (len_lt_pow3 f.length))
    rw [Nat.mul_comm] at a1
    unfold Bud at h2
    omega
  have hM : M ≤ 2000000 := by
    have := Nat.mul_le_mul_left (M + 1) (show 1 ≤ 3 ^ f.length from Nat.pow_pos (by decide))
    unfold Bud at h2
    omega
  have ho : ∀ k, k ≤ f.length → okQ 5000000 (hornK f (rv x) k) := fun k hk2 => by
    refine (horn_ok h1.okL (okQ_rv hx (by decide)) m1 k hk2).mono ?_
    have a1 := Nat.mul_le_mul_right M hk2
    have a2 := Nat.mul_le_mul_right 200000 hk2
    rw [Nat.mul_add]
    omega
  have he := ref05_EvalB (f.map rq) x (by rw [List.length_map]; omega) (rqs_ok fun y hy => (h1.okL y hy).mono (by omega)) (hx.up (by decide)) (by rw [map_rv_rqL, List.length_map]; exact ho)
  rw [map_rv_rqL] at he
  refine ⟨he.args (leQRs f (LeT.refl _)), ?_⟩
  have := ho f.length (Nat.le_refl _)
  rw [horn_all] at this
  exact this.mono (by decide)
theorem ref05_Count (P : List R3) (lo hi : R3) (hP : P.length ≤ 99) (kP : ∀ r ∈ P, RatOk r 5000000) (hc : trimP (P.map rv) ≠ [] → CtrOk (trimP (P.map rv)) ∧ ∃ M, JS (smallP (ctrQ (trimP (P.map rv)))) (smallP (derP (ctrQ (trimP (P.map rv))))) M) (kl : RatOk lo 200000) (kh : RatOk hi 200000) : Ret Tryz.prog 23 [rsD P, rD lo, rD hi] (· = .int .i64 (if trimP (P.map rv) = [] then -1 else cntF (ctr (trimP (P.map rv))) (rv lo) (rv hi))) := by
  have t1 := ref05_Trim P (by omega) (fun r hr => (kP r hr).up (by decide))
  have l1 := trim_len (P.map rv)
  rw [List.length_map] at l1
  have op : ∀ x ∈ trimP (P.map rv), okQ 5000000 x := fun x hx => by
    obtain ⟨r, hr, rfl⟩ := List.mem_map.1 (trim_mem hx)
    exact okQ_rv (kP r hr) (by decide)
  have tp := tr_trim (P.map rv)
  generalize trimP (P.map rv) = p at *
  by_cases h0 : p = []
  · rw [if_pos h0]
    have hl : p.length = 0 := by rw [h0]; rfl
    clear kP hc op
    refine ret_of_awp tab Tryz.func23 rfl rfl (Nat.le_of_ble_eq_true rfl) (fun w0 F0 => ?_)
    repeat' (first
      | (show awpL _ _ _ _ _; first | refine goL ?_ | refine cl 44 tt rfl rfl rfl (hr := t1) (k := ?_) | (refine gdLG ?_ ?_ <;> intro _ <;> try (exfalso; omega)))
      | (show awp _ _ _ _; first | refine goA ?_ | refine rg 7 5 ?_ | (refine cdG ?_ ?_ <;> intro _ <;> try (exfalso; omega)))
      | (show andThen _ _ _ _; refine goN ?_)
      | (show inBlock _ _ _ _; refine goB ?_)
      | (show awpR _ _ _ _ _ _ _; first | refine goR ?_ | refine clR 44 tt rfl rfl rfl (hr := t1) (k := ?_) | (refine gdRG ?_ ?_ <;> intro _ <;> try (exfalso; omega)))
      | (show retPost _ _ _ _ _; refine finG ?_))
    rfl
  · rw [if_neg h0]
    have hl := ne_len h0
    obtain ⟨hk, M, js⟩ := hc h0
    have s1 := ref05_Simple p tp (by omega) op hk
    obtain ⟨M2, f2⟩ := hk.fit2
    have ql := hk.ql
    have tQ := f2.ta
    have tE := f2.tb
    have hM2 : M2 ≤ 2000000 := by
      have b := f2.bud
      have := Nat.mul_le_mul_left (M2 + 1) (show 1 ≤ 3 ^ (ctrQ p).length from Nat.pow_pos (by decide))
      unfold Bud at b
      omega
    have tm := ref05_tame ((ctrQ p).map rq) (by rw [List.length_map]; omega) (rqs_ok fun x hx => (f2.ha.okL x hx).mono (by omega)) M (by rw [map_rv_rqL, trim_of tQ]; exact fun x hx => (f2.ha.okL x hx).mono (by omega)) (by rw [map_rv_rqL]; exact fun x hx => (f2.hb.okL x hx).mono (by omega)) (by rw [map_rv_rqL, trim_of tQ]; exact js)
    rw [map_rv_rqL, trim_of tQ, List.length_map] at tm
    have tm := tm.args (leQRs _ (LeT.refl _))
    have hfit := js.chain chOk_small ((ctrQ p).length + 1)
    have cln := chain_len smallP ((ctrQ p).length + 1) (smallP (ctrQ p)) (smallP (derP (ctrQ p)))
    have v1 := vrs_tame ((ctrQ p).length + 1) tQ tE (rv lo)
    have v2 := vrs_tame ((ctrQ p).length + 1) tQ tE (rv hi)
    have ec : cntF (ctr p) (rv lo) (rv hi) = cntF (chainL smallP ((ctrQ p).length + 1) (smallP (ctrQ p)) (smallP (derP (ctrQ p)))) (rv lo) (rv hi) := by
      unfold cntF ctr
      rw [v1, v2]
    rw [ec]
    generalize chainL smallP ((ctrQ p).length + 1) (smallP (ctrQ p)) (smallP (derP (ctrQ p))) = F at *
    have gF : ∀ i, i < F.length → F.getD i [] ∈ F := fun i hi => by
      rw [List.getD_eq_getElem?_getD, List.getElem?_eq_getElem hi]; exact List.getElem_mem hi
    have ch : ∀ x, RatOk x 200000 → Ret Tryz.prog 72 [qssD F, rD x] (· = .int .i64 (vrsF F (rv x))) := fun x hx => ref05_changes F x (by omega) fun i hi => by
      obtain ⟨g1, M', g2⟩ := hfit _ (gF i hi)
      refine ref05_EvalF _ x g2 ?_ hx
      have b := g2.2
      have b2 := len_lt_pow3 (F.getD i []).length
      by_cases g0 : (F.getD i []).length ≤ 13
      · omega
      · exfalso
        have b3 := Nat.pow_le_pow_right (show 0 < 3 by decide) (show 14 ≤ (F.getD i []).length by omega)
        have b4 := Nat.mul_le_mul_right (3 ^ (F.getD i []).length) (show 1 ≤ M' + 1 by omega)
        have b5 : (3 : Nat) ^ 14 = 4782969 := by decide
        unfold Bud at b
        omega
    have c1 := ch lo kl
    have c2 := ch hi kh
    have ls := ref03_Less lo hi (kl.up (by decide)) (kh.up (by decide))
    have b1 : 0 ≤ vrsF F (rv lo) ∧ vrsF F (rv lo) ≤ 1000 := by
      have := chg_bd (F.map fun f => sgQ (evalP f (rv lo))) 0
      rw [List.length_map] at this
      unfold vrsF; omega
    have b2 : 0 ≤ vrsF F (rv hi) ∧ vrsF F (rv hi) ≤ 1000 := by
      have := chg_bd (F.map fun f => sgQ (evalP f (rv hi))) 0
      rw [List.length_map] at this
      unfold vrsF; omega
    unfold cntF
    generalize vrsF F (rv lo) = n1 at *
    generalize vrsF F (rv hi) = n2 at *
    generalize ctrQ p = Q at *
    clear ch gF hfit hc hk f2 js kP op ec v1 v2
    by_cases h : rv lo < rv hi
    · rw [if_pos h]
      rw [decide_eq_true h] at ls
      refine ret_of_awp tab Tryz.func23 rfl rfl (Nat.le_of_ble_eq_true rfl) (fun w0 F0 => ?_)
      repeat' (first
        | (show awpL _ _ _ _ _; first | refine goL ?_ | refine cl 44 tt rfl rfl rfl (hr := t1) (k := ?_) | refine cl 71 tt rfl rfl rfl (hr := s1) (k := ?_) | refine cl 70 tt rfl rfl rfl (hr := tm) (k := ?_) | refine cl 28 tt rfl rfl rfl (hr := ls) (k := ?_) | refine cl 72 tt rfl rfl rfl (hr := c1) (k := ?_) | refine cl 72 tt rfl rfl rfl (hr := c2) (k := ?_) | (refine gdLG ?_ ?_ <;> intro _ <;> try (exfalso; omega)))
        | (show awp _ _ _ _; first | refine goA ?_ | refine rg 7 5 ?_ | (refine cdG ?_ ?_ <;> intro _ <;> try (exfalso; omega)))
        | (show andThen _ _ _ _; refine goN ?_)
        | (show inBlock _ _ _ _; refine goB ?_)
        | (show awpR _ _ _ _ _ _ _; first | refine goR ?_ | refine clR 44 tt rfl rfl rfl (hr := t1) (k := ?_) | refine clR 71 tt rfl rfl rfl (hr := s1) (k := ?_) | refine clR 70 tt rfl rfl rfl (hr := tm) (k := ?_) | refine clR 28 tt rfl rfl rfl (hr := ls) (k := ?_) | refine clR 72 tt rfl rfl rfl (hr := c1) (k := ?_) | refine clR 72 tt rfl rfl rfl (hr := c2) (k := ?_) | (refine gdRG ?_ ?_ <;> intro _ <;> try (exfalso; omega)))
        | (show retPost _ _ _ _ _; refine finG ?_))
      rfl
    · rw [if_neg h]
      rw [decide_eq_false h] at ls
      refine ret_of_awp tab Tryz.func23 rfl rfl (Nat.le_of_ble_eq_true rfl) (fun w0 F0 => ?_)
      repeat' (first
        | (show awpL _ _ _ _ _; first | refine goL ?_ | refine cl 44 tt rfl rfl rfl (hr := t1) (k := ?_) | refine cl 28 tt rfl rfl rfl (hr := ls) (k := ?_) | (refine gdLG ?_ ?_ <;> intro _ <;> try (exfalso; omega)))
        | (show awp _ _ _ _; first | refine goA ?_ | refine rg 7 5 ?_ | (refine cdG ?_ ?_ <;> intro _ <;> try (exfalso; omega)))
        | (show andThen _ _ _ _; refine goN ?_)
        | (show inBlock _ _ _ _; refine goB ?_)
        | (show awpR _ _ _ _ _ _ _; first | refine goR ?_ | refine clR 44 tt rfl rfl rfl (hr := t1) (k := ?_) | refine clR 28 tt rfl rfl rfl (hr := ls) (k := ?_) | (refine gdRG ?_ ?_ <;> intro _ <;> try (exfalso; omega)))
        | (show retPost _ _ _ _ _; refine finG ?_))
      rfl
end Go.Proofs.YtlphlodailailaaGreat
