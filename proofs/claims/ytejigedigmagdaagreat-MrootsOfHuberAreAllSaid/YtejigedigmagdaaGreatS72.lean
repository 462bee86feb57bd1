/-
  A statement of the seat: what its contract is, and the claim. Conditions: as each says.
-/
import Derived.Test.YtejigedigmagdaaGreatS71
import Derived.Test.YtejigedigmagdaaGreatA11
set_option linter.unusedVariables false
set_option linter.unusedSimpArgs false
set_option maxHeartbeats 8000000
namespace Go.Proofs.YtejigedigmagdaaGreat
open Go.Vw
attribute [local irreducible] awp awpL awpR awpAC

theorem ref16_SortQ22 (l : List Rat) (hn : l.length ≤ 200) (hl : ∀ q ∈ l, okQ 1000 q) : Ret Tryz.prog 20 [qsD l] (· = qsD (srt l)) := by
  have h := ref16_Sort (l.map rq) (by rw [List.length_map]; exact hn) (rqs_ok hl)
  rw [map_rv_rqL] at h
  exact h.args (leQRs l (LeT.refl _))
theorem srt_bd {x : List Rat} (x0 : x ≠ []) : (∀ v ∈ x, (srt x).getD 0 0 ≤ v) ∧ (∀ v ∈ x, v ≤ (srt x).getD ((srt x).length - 1) 0) ∧ (srt x).getD 0 0 ≤ (srt x).getD ((srt x).length - 1) 0 := by
  have hl : 0 < (srt x).length := by rw [srt_len]; exact ne_len x0
  have a := drop_ge (srt_asc x) (m := 0) hl
  have b := take_le (srt_asc x) (m := (srt x).length - 1) (by omega)
  rw [show (srt x).length - 1 + 1 = (srt x).length by omega, List.take_of_length_le (Nat.le_refl _)] at b
  rw [getD_in hl, getD_in (show (srt x).length - 1 < _ by omega)]
  have hm : ∀ v ∈ x, v ∈ srt x := fun v hv => (srt_perm x).symm.subset hv
  exact ⟨fun v hv => a v (hm v hv), fun v hv => b v (hm v hv), b _ (List.getElem_mem _)⟩
theorem sumR_step {x : List Rat} {i : Nat} (h : i < x.length) : sumR (x.take (i + 1)) = sumR (x.take i) + x.getD i 0 := by
  rw [List.take_add_one, List.getElem?_eq_getElem h, sumR_append, List.getD_eq_getElem?_getD, List.getElem?_eq_getElem h]
  show _ + (x[i] + 0) = _
  rw [Rat.add_zero]; rfl
theorem sumR_ok {n : Nat} (h1 : 1 < n) : ∀ {x : List Rat}, (∀ v ∈ x, okQ n v) → okQ (n + x.length * n) (sumR x)
  | [], _ => okQ_zero (by omega)
  | v :: x, h => by
    have ih := sumR_ok h1 (x := x) fun u hu => h u (List.mem_cons_of_mem _ hu)
    refine okQ.mono ((h v List.mem_cons_self).add ih) ?_
    rw [List.length_cons, Nat.add_mul]
    omega
theorem sgn_one {x : Rat} (h : 0 < x) : x.num.sign = 1 := by
  rcases sg_cases x with ⟨_, e⟩ | ⟨e, _⟩ | ⟨e, _⟩
  · exact e
  · grind
  · grind
theorem sgn_neg {x : Rat} (h : x < 0) : x.num.sign = -1 := by
  rcases sg_cases x with ⟨e, _⟩ | ⟨e, _⟩ | ⟨_, e⟩
  · grind
  · grind
  · exact e
theorem all_true (raw : List Int) (k t : Int) (nr : raw.length ≤ 9223372036854775807) (xr : I64 raw) (k1 : -9223372036854775808 ≤ k) (k2 : k < 9223372036854775808) (t1 : -9223372036854775808 ≤ t) (t2 : t < 9223372036854775808) : Ret Tryz.prog 8 [i64s raw, .int .i64 k, .int .i64 t] (· = .bool true) := by
  have aw := law22_awake
  have nm := made_Numbers raw 6 nr xr (by decide)
  have n1 := made_Number t t1 t2
  have ov := numQ2 t
  have ol := nums2 raw 6
  have ll : ((raw.take 6).map numQ).length ≤ 6 := by rw [List.length_map, List.length_take]; omega
  generalize (raw.take 6).map numQ = x at *
  generalize numQ t = v at *
  have r1 := law22_radius k k1 k2
  have or := radQ_ok k
  have pr := radQ_pos k
  generalize radQ k = r at *
  clear nr xr k1 k2 t1 t2
  by_cases x0 : x = []
  · have lx : x.length = 0 := by rw [x0]; rfl
    clear ol x0 ov
    refine ret_of_awp tab Tryz.func8 rfl rfl (Nat.le_of_ble_eq_true rfl) (fun w0 F0 => ?_)
    repeat' (first | refine wG ?_ | refine wC nm ?_ | refine wC n1 ?_ | refine wC aw ?_ | refine rgK 5 10 [11] ?_ | refine rgK 14 14 [15] ?_ | refine rg 20 5 ?_ | refine rgK 21 6 [20] ?_ | refine rg 22 37 ?_ | refine wS ?_ ?_ <;> intro _ | refine finG ?_)
    rfl
  · have lx := ne_len x0
    have ol1 : ∀ y ∈ x, okQ 100 y := fun y hy => (ol y hy).mono (by decide)
    have ol3 : ∀ y ∈ x, okQ 1000 y := fun y hy => (ol y hy).mono (by decide)
    obtain ⟨lo, hi, at_⟩ := HubAt.ex pr x0
    have he := chk_made x0 (by omega) pr
    have h1 := mroots_HuberOk x r (by omega) ol1 (or.mono (by decide)) pr he at_
    have oI := HubAt.ok (by omega) ol1 (or.mono (by decide)) at_
    have sp := at_.spec pr
    have h2 := mroots_HuberSum x r v (by omega) ol3 (or.mono (by decide)) (ov.mono (by decide)) pr he
    have og : okQ 30000 (hub x r v) := (hub_ok (or.mono (show 4 ≤ 100 by decide)) (ov.mono (show 2 ≤ 100 by decide)) (by decide) ol1).mono (by
      have := Nat.mul_le_mul_right (2 * 100) ll
      omega)
    have so := ref16_SortQ22 x (by omega) ol3
    obtain ⟨b1, b2, b3⟩ := srt_bd x0
    obtain ⟨c1, c2⟩ := sp.between pr x0 b1 b2
    have sl := srt_len x
    have om : okQ 2 ((srt x).getD 0 0) := ok_cf (srt_ok ol) (by decide) _
    have oM : okQ 2 ((srt x).getD ((srt x).length - 1) 0) := ok_cf (srt_ok ol) (by decide) _
    have e0 : (((srt x).length : Int) - 1).toNat = (srt x).length - 1 := by omega
    rw [← e0] at b2 b3 c2 oM
    have f1 := ref03_SubQ _ _ (oM.mono (show 2 ≤ 10000000 by decide)) (om.mono (show 2 ≤ 10000000 by decide))
    have f2 := ref03_AddQ _ r ((oM.sub om).mono (show _ ≤ 10000000 by decide)) (or.mono (by decide))
    have ofar := ((oM.sub om).add or).mono (show _ ≤ 100 by decide)
    have l3 := ref03_LessQ lo _ (oI.1.mono (by decide)) (om.mono (show 2 ≤ 1000000 by decide))
    have l4 := ref03_LessQ _ hi (oM.mono (show 2 ≤ 1000000 by decide)) (oI.2.mono (by decide))
    rw [decide_eq_false (Rat.not_lt.2 c1)] at l3
    rw [decide_eq_false (Rat.not_lt.2 c2)] at l4
    generalize hm : (srt x).getD 0 0 = m at *
    generalize hM : (srt x).getD (((srt x).length : Int) - 1).toNat 0 = M at *
    have pf : 0 < M - m + r := by grind
    have pf2 : M - m < M - m + r := by grind
    generalize M - m + r = far at *
    obtain ⟨lo2, hi2, at2⟩ := HubAt.ex pf x0
    have h3 := mroots_HuberOk x far (by omega) ol1 ofar pf (chk_made x0 (by omega) pf) at2
    have n0 : ((x.length : Nat) : Rat) ≠ 0 := fun e => by
      have e0 : ((x.length : Nat) : Rat) = ((0 : Nat) : Rat) := e
      have := Rat.natCast_inj.1 e0
      omega
    have hmu : sumR x / ((x.length : Nat) : Rat) * ((x.length : Nat) : Rat) = sumR x := Rat.div_mul_cancel n0
    obtain ⟨m1, m2⟩ := (at2.spec pf).mean x0 b1 b2 b3 pf2 hmu
    have hx1 := ref03_FromIntW (x.length : Int) (by omega) (by omega)
    rw [Rat.intCast_natCast] at hx1
    have osum : okQ 100 (sumR x) := (sumR_ok (by decide) ol).mono (by have := Nat.mul_le_mul_right 2 ll; omega)
    have olen : okQ 10 ((x.length : Nat) : Rat) := by
      have := ok_intW (v := (x.length : Int)) (by omega)
      rwa [Rat.intCast_natCast] at this
    have qu := ref03_QuoQ (sumR x) ((x.length : Nat) : Rat) (osum.mono (by decide)) (olen.mono (by decide)) n0
    have omu := osum.div olen n0
    generalize sumR x / ((x.length : Nat) : Rat) = mu at *
    subst m1 m2
    have sm := ref04_SameI (hi2, hi2) (hi2, hi2) ⟨omu.mono (by decide), omu.mono (by decide)⟩ ⟨omu.mono (by decide), omu.mono (by decide)⟩
    rw [decide_eq_true rfl] at sm
    have sg := ref03_SignQ (hub x r v) (og.mono (by decide))
    have l1 := ref03_LessQ v lo (ov.mono (by decide)) (oI.1.mono (by decide))
    have l2 := ref03_LessQ hi v (oI.2.mono (by decide)) (ov.mono (by decide))
    obtain ⟨H, hH⟩ : ∃ H : Nat → Rat, ∀ i, H i = sumR (x.take i) := ⟨fun i => sumR (x.take i), fun _ => rfl⟩
    have h0 : H 0 = 0 := by rw [hH]; rfl
    have oH : ∀ i, okQ 100 (H i) := fun i => by
      rw [hH]
      refine (sumR_ok (by decide) (x := x.take i) fun u hu => ol u (List.mem_of_mem_take hu)).mono ?_
      have := Nat.mul_le_mul_right 2 (show (x.take i).length ≤ 6 by rw [List.length_take]; omega)
      omega
    have hs : ∀ i, i < x.length → H (i + 1) = H i + x.getD i 0 := fun i hi => by rw [hH, hH]; exact sumR_step hi
    rw [show sumR x = H x.length by rw [hH, List.take_of_length_le (Nat.le_refl _)]] at qu
    have ogx : ∀ i, okQ 2 (x.getD i 0) := fun i => ok_cf ol (by decide) i
    have cs : ∃ d1 d2 : Bool, decide (v < lo) = d1 ∧ decide (hi < v) = d2 ∧ ((d1 = true ∧ (hub x r v).num.sign = 1) ∨ (d1 = false ∧ d2 = true ∧ (hub x r v).num.sign = -1) ∨ (d1 = false ∧ d2 = false ∧ (hub x r v).num.sign = 0)) := by
      refine ⟨_, _, rfl, rfl, ?_⟩
      by_cases a : v < lo
      · exact .inl ⟨decide_eq_true a, sgn_one (sp.below v a)⟩
      · by_cases b : hi < v
        · exact .inr (.inl ⟨decide_eq_false a, decide_eq_true b, sgn_neg (sp.above v b)⟩)
        · exact .inr (.inr ⟨decide_eq_false a, decide_eq_false b, by rw [sp.zero v (Rat.not_lt.1 a) (Rat.not_lt.1 b)]; rfl⟩)
    generalize hub x r v = g at *
    generalize srt x = s at *
    generalize g.num.sign = z at *
    rw [← hM, ← hm] at f1
    rw [← hm] at l3
    rw [← hM] at l4
    rw [← hM, ← hm] at f2
    clear ol ol1 ol3 at_ oI sp og b1 b2 b3 c1 c2 om oM ofar pf pf2 at2 n0 hmu osum olen omu hH or pr ov
    generalize ((x.length : Nat) : Rat) = len at *
    obtain ⟨d1, d2, e1, e2, cs⟩ := cs
    rw [e1] at l1
    rw [e2] at l2
    clear e1 e2
    rcases cs with ⟨rfl, rfl⟩ | ⟨rfl, rfl, rfl⟩ | ⟨rfl, rfl, rfl⟩
    all_goals
      refine ret_of_awp tab Tryz.func8 rfl rfl (Nat.le_of_ble_eq_true rfl) (fun w0 F0 => ?_)
      repeat' (first | refine wG ?_ | refine wC nm ?_ | refine wC n1 ?_ | refine wC aw ?_ | refine wC r1 ?_ | refine wC h1 ?_ | refine wC h2 ?_ | refine wC so ?_ | refine wC l1 ?_ | refine wC l2 ?_ | refine wC f1 ?_ | refine wC f2 ?_ | refine wC h3 ?_ | refine rgK 5 10 [11] ?_ | refine rgK 14 14 [15] ?_ | refine rg 20 5 ?_ | refine rgK 21 6 [20] ?_ | refine rg 22 37 ?_ | refine wS ?_ ?_ <;> intro _ | refine finG ?_)
      refine awp_conv (Conv.box 18 (cs := [.bool false, .nils, .nils]) (rC r0) rfl leL) ?_
      refine awp_loop1 (fun (i : Nat) => ([(7, .d (qsD x)), (9, .ptr 9 0), (11, .ptr 11 0), (13, .d (qsD s)), (14, _), (16, .ptr 16 0), (17, .d (.int .i64 0)), (18, .ptr 18 0), (19, .d (.int .i64 i))], [(9, .box 32 ((iC (rq lo) (rq hi)).map V.d)), (11, .box 27 ((rC (rq g)).map V.d)), (16, .box 32 ((iC (rq hi2) (rq hi2)).map V.d)), (18, .box 27 ((rC (rq (H i))).map V.d))])) (fun i => i ≤ x.length) (fun i => x.length - i) 0 (by omega) ⟨rfl, rfl, rfl, rfl, rfl, rfl, rfl, rfl, rfl, rfl⟩ ⟨rfl, rfl, rfl, (by rw [h0, rq_zero']; rfl), trivial⟩ (fun i hi => ?_)
      by_cases h4 : i < x.length
      · have a1 := ref03_AddQ (H i) (x.getD i 0) ((oH i).mono (by decide)) ((ogx i).mono (by decide))
        rw [← hs i h4] at a1
        clear oH ogx hs
        repeat' (first | refine wG ?_ | refine wC a1 ?_ | refine rgK 5 10 [11] ?_ | refine rgK 14 14 [15] ?_ | refine rg 20 5 ?_ | refine rgK 21 6 [20] ?_ | refine rg 22 37 ?_ | refine wS ?_ ?_ <;> intro _ | refine finG ?_)
        exact ⟨i + 1, by omega, by omega, ⟨rfl, rfl, rfl, rfl, rfl, rfl, rfl, rfl, iv (by omega), rfl⟩, rfl, rfl, rfl, rfl, trivial⟩
      · have e : i = x.length := by omega
        subst e
        clear oH ogx hs
        repeat' (first | refine wG ?_ | refine wC hx1 ?_ | refine wC qu ?_ | refine wC aw ?_ | refine wC sg ?_ | refine wC l3 ?_ | refine wC l4 ?_ | refine wC sm ?_ | refine rgK 5 10 [11] ?_ | refine rgK 14 14 [15] ?_ | refine rg 20 5 ?_ | refine rgK 21 6 [20] ?_ | refine rg 22 37 ?_ | refine wS ?_ ?_ <;> intro _ | refine finG ?_)
        all_goals rfl
end Go.Proofs.YtejigedigmagdaaGreat
