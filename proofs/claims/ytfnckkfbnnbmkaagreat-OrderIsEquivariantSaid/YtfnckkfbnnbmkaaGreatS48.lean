/-
  A statement of the seat: what its contract is, and the claim. Conditions: as each says.
-/
import Derived.Test.YtfnckkfbnnbmkaaGreatA11
set_option linter.unusedVariables false
set_option linter.unusedSimpArgs false
set_option maxHeartbeats 16000000
namespace Go.Proofs.YtfnckkfbnnbmkaaGreat
open Go.Vw
attribute [local irreducible] awp awpL awpR

theorem equi_true (raw : List Int) (level g by' v : Int) (hl : raw.length ≤ 9223372036854775807) (hx : I64 raw) (a1 : -9223372036854775808 ≤ level) (a2 : level < 9223372036854775808) (b1 : -9223372036854775808 ≤ g) (b2 : g < 9223372036854775808) (c1 : -9223372036854775808 ≤ by') (c2 : by' < 9223372036854775808) (d1 : -9223372036854775808 ≤ v) (d2 : v < 9223372036854775808) : Ret Tryz.prog 10 [i64s raw, .int .i64 level, .int .i64 g, .int .i64 by', .int .i64 v] (· = .bool true) := by
  have aw := law16_awake
  have nu : Ret Tryz.prog 12 [i64s raw, .int .i64 9] (· = qsD ((raw.take 9).map numQ)) := made_Numbers raw 9 hl hx (by decide)
  have lv := made_Level level a1 a2
  have kl := numbers_ok raw 9
  have hlen : ((raw.take 9).map numQ).length ≤ 9 := by simp; omega
  generalize (raw.take 9).map numQ = l at *
  have kp := ok_levQ level
  have bp := levQ_bd level
  generalize levQ level = p at *
  by_cases h0 : l.length < 2
  · refine ret_of_awp tab Tryz.func10 rfl rfl (Nat.le_of_ble_eq_true rfl) (fun w0 F0 => ?_)
    repeat' (first
      | (show awpL _ _ _ _ _; first | refine goL ?_ | refine cl 12 tt rfl rfl rfl (hr := nu) (k := ?_) | refine cl 13 tt rfl rfl rfl (hr := aw) (k := ?_) | (refine gdLG ?_ ?_ <;> intro _ <;> try (exfalso; omega)))
      | (show awp _ _ _ _; first | refine goA ?_ | refine rg 9 10 ?_ | refine rgK 18 7 [21] ?_ | refine rg 21 5 ?_ | (refine cdG ?_ ?_ <;> intro _ <;> try (exfalso; omega)))
      | (show andThen _ _ _ _; refine goN ?_)
      | (show inBlock _ _ _ _; refine goB ?_)
      | (show awpR _ _ _ _ _ _ _; first | refine goR ?_ | refine clR 12 tt rfl rfl rfl (hr := nu) (k := ?_) | refine clR 13 tt rfl rfl rfl (hr := aw) (k := ?_) | (refine gdRG ?_ ?_ <;> intro _ <;> try (exfalso; omega)))
      | (show retPost _ _ _ _ _; refine finG ?_))
    rfl
  · have n1 := made_Number by' c1 c2
    have n2 := made_Number v d1 d2
    have k1 := ok_numQ by'
    have kw := ok_numQ v
    have ab := ref03_AbsQ (numQ by') (k1.mono (by decide))
    have fr := ref03_FractionQ 1 3 (by decide) (by decide) (by decide) (by decide)
    rw [show Rat.divInt 1 3 = 1 / 3 by decide +kernel] at fr
    have k3 : okQ 10 (1 / 3 : Rat) := by
      have : okQ 10 (Rat.divInt 1 3) := ok_fracW (by decide) (by decide) (by decide)
      rwa [show Rat.divInt 1 3 = 1 / 3 by decide +kernel] at this
    have ad := ref03_AddQ (absQ (numQ by')) (1 / 3) ((absQ_ok k1).mono (by decide)) (k3.mono (by decide))
    have kc := (absQ_ok k1).add k3
    have hc : 0 < absQ (numQ by') + 1 / 3 := by
      have := absQ_nonneg (numQ by')
      grind
    generalize absQ (numQ by') + 1 / 3 = c at *
    generalize absQ (numQ by') = ca at *
    generalize (1 / 3 : Rat) = third at *
    generalize numQ by' = nb at *
    generalize numQ v = w at *
    have md := made_ModW g (((l.length : Int) + 1) / 2) b1 b2 (by omega) (by omega)
    have mb := modN g (show 0 < (l.length + 1) / 2 by omega)
    rw [show (((l.length + 1) / 2 : Nat) : Int) = ((l.length : Int) + 1) / 2 by omega] at mb
    generalize g % (((l.length : Int) + 1) / 2) = k at *
    obtain ⟨k, rfl⟩ : ∃ m : Nat, k = m := ⟨k.toNat, by omega⟩
    have e1 := law16_estimates l p k (by omega) (by omega) (okQ_mono kl (by decide)) (kp.mono (by decide)) (Rat.le_of_lt bp.1) (Rat.le_of_lt bp.2) (by omega)
    have km : ∀ x ∈ (l.map fun x => x * c + w), okQ 100 x := fun x hx => by
      obtain ⟨y, hy, rfl⟩ := List.mem_map.1 hx
      exact (((kl y hy).mul kc).add kw).mono (by decide)
    have ml : (l.map fun x => x * c + w).length = l.length := List.length_map ..
    have e2 := law16_estimates (l.map fun x => x * c + w) p k (by omega) (by omega) km (kp.mono (by decide)) (Rat.le_of_lt bp.1) (Rat.le_of_lt bp.2) (by omega)
    have ko := est_ok (p := p) (g := k) (show 2 ≤ l.length by omega) (by omega) (okQ_mono kl (by decide)) (by omega)
    have ko2 := est_ok (p := p) (g := k) (show 2 ≤ (l.map fun x => x * c + w).length by omega) (by omega) km (by omega)
    have hE : ∀ i, i < 11 → (estL (l.map fun x => x * c + w) p k).getD i 0 = if i < 9 then (estL l p k).getD i 0 * c + w else (estL l p k).getD i 0 * c := fun i hi => by
      rw [estL_map hc (by omega) (by omega) p (by omega)]
      unfold estL
      have : i = 0 ∨ i = 1 ∨ i = 2 ∨ i = 3 ∨ i = 4 ∨ i = 5 ∨ i = 6 ∨ i = 7 ∨ i = 8 ∨ i = 9 ∨ i = 10 := by omega
      rcases this with rfl | rfl | rfl | rfl | rfl | rfl | rfl | rfl | rfl | rfl | rfl <;> rfl
    have l1 : (estL l p k).length = 11 := rfl
    have l2 : (estL (l.map fun x => x * c + w) p k).length = 11 := rfl
    clear bp mb
    generalize estL (l.map fun x => x * c + w) p k = E2 at *
    generalize estL l p k = E1 at *
    have kl2 := okQ_mono kl (show 10 ≤ 100 by decide)
    refine ret_of_awp tab Tryz.func10 rfl rfl (Nat.le_of_ble_eq_true rfl) (fun w0 F0 => ?_)
    repeat' (first
      | (show awpL _ _ _ _ _; first | refine goL ?_ | refine cl 12 tt rfl rfl rfl (hr := nu) (k := ?_) | refine cl 23 tt rfl rfl rfl (hr := n1) (k := ?_) | refine cl 50 tt rfl rfl rfl (hr := ab) (k := ?_) | refine cl 30 tt rfl rfl rfl (hr := fr) (k := ?_) | refine cl 16 tt rfl rfl rfl (hr := ad) (k := ?_) | refine cl 23 tt rfl rfl rfl (hr := n2) (k := ?_) | (refine gdLG ?_ ?_ <;> intro _ <;> try (exfalso; omega)))
      | (show awp _ _ _ _; first | refine goA ?_ | refine rg 9 10 ?_ | refine rgK 18 7 [21] ?_ | refine rg 21 5 ?_ | (refine cdG ?_ ?_ <;> intro _ <;> try (exfalso; omega)))
      | (show andThen _ _ _ _; refine goN ?_)
      | (show inBlock _ _ _ _; refine goB ?_)
      | (show awpR _ _ _ _ _ _ _; first | refine goR ?_ | refine clR 12 tt rfl rfl rfl (hr := nu) (k := ?_) | refine clR 23 tt rfl rfl rfl (hr := n1) (k := ?_) | refine clR 50 tt rfl rfl rfl (hr := ab) (k := ?_) | refine clR 30 tt rfl rfl rfl (hr := fr) (k := ?_) | refine clR 16 tt rfl rfl rfl (hr := ad) (k := ?_) | refine clR 23 tt rfl rfl rfl (hr := n2) (k := ?_) | (refine gdRG ?_ ?_ <;> intro _ <;> try (exfalso; omega)))
      | (show retPost _ _ _ _ _; refine finG ?_))
    refine awp_adopt 14 500 30 3 qC 0 rfl ?_
    refine awp_loop1 (fun (i : Nat) => ([(1, .d (.int .i64 level)), (2, .d (.int .i64 g)), (11, .d (qsD l)), (12, .ptr 12 0), (13, .ptr 13 0), (14, .own 500 0 i 30 3), (15, .d (.int .i64 i))], [(12, .box 30 ((rC (rq c)).map V.d)), (13, .box 30 ((rC (rq w)).map V.d)), (500, qB ((l.map fun x => x * c + w).take i))])) (fun i => i ≤ l.length) (fun i => l.length - i) 0 (by omega) ⟨rfl, rfl, rfl, rfl, rfl, rfl, rfl, rfl⟩ ⟨rfl, rfl, rfl, trivial⟩ (fun i hi => ?_)
    have hpl : ((l.map fun x => x * c + w).take i).length = i := by rw [List.length_take]; omega
    by_cases h3 : i < l.length
    · have kx := getD_ok kl2 h3
      have m1 := ref03_MulQ (l.getD i 0) c (kx.mono (by decide)) (kc.mono (by decide))
      have m2 := ref03_AddQ (l.getD i 0 * c) w ((kx.mul kc).mono (by decide)) (kw.mono (by decide))
      have sn := take_snoc (l := l.map fun x => x * c + w) (i := i) (by omega)
      rw [getD_map_in h3] at sn
      clear e1 e2 km ko ko2 hE kl kl2 kx
      generalize (l.map fun x => x * c + w).take i = M at *
      generalize l.getD i 0 * c + w = y at *
      generalize l.getD i 0 * c = z at *
      repeat' (first
        | (show awpL _ _ _ _ _; first | refine goL ?_ | refine cl 17 tt rfl rfl rfl (hr := m1) (k := ?_) | refine cl 16 tt rfl rfl rfl (hr := m2) (k := ?_) | (refine gdLG ?_ ?_ <;> intro _ <;> try (exfalso; omega)))
        | (show awp _ _ _ _; first | refine goA ?_ | refine rg 9 10 ?_ | refine rgK 18 7 [21] ?_ | refine rg 21 5 ?_ | (refine cdG ?_ ?_ <;> intro _ <;> try (exfalso; omega)))
        | (show andThen _ _ _ _; refine goN ?_)
        | (show inBlock _ _ _ _; refine goB ?_)
        | (show awpR _ _ _ _ _ _ _; first | refine goR ?_ | refine clR 17 tt rfl rfl rfl (hr := m1) (k := ?_) | refine clR 16 tt rfl rfl rfl (hr := m2) (k := ?_) | (refine gdRG ?_ ?_ <;> intro _ <;> try (exfalso; omega)))
        | (show retPost _ _ _ _ _; refine finG ?_))
      exact ⟨i + 1, by omega, by omega, ⟨rfl, rfl, rfl, rfl, rfl, ownEq (by simp; omega), iv (by omega), rfl⟩, rfl, rfl, blkEq sn, trivial⟩
    · obtain rfl : i = l.length := by omega
      have et : (l.map fun x => x * c + w).take l.length = l.map fun x => x * c + w := List.take_of_length_le (by omega)
      rw [et]
      have hcut : cut 0 l.length (l.map fun x => x * c + w) = l.map fun x => x * c + w := by rw [← ml]; exact cut_all _
      clear kl kl2 et hpl km
      generalize (l.map fun x => x * c + w) = M at *
      repeat' (first
        | (show awpL _ _ _ _ _; first | refine goL ?_ | refine cl 24 tt rfl rfl rfl (hr := md) (k := ?_) | refine cl 15 tt rfl rfl rfl (hr := lv) (k := ?_) | refine cl 49 tt rfl rfl rfl (hr := e1) (k := ?_) | refine cl 49 tt rfl rfl rfl (hr := e2) (k := ?_) | (refine gdLG ?_ ?_ <;> intro _ <;> try (exfalso; omega)))
        | (show awp _ _ _ _; first | refine goA ?_ | refine rg 9 10 ?_ | refine rgK 18 7 [21] ?_ | refine rg 21 5 ?_ | (refine cdG ?_ ?_ <;> intro _ <;> try (exfalso; omega)))
        | (show andThen _ _ _ _; refine goN ?_)
        | (show inBlock _ _ _ _; refine goB ?_)
        | (show awpR _ _ _ _ _ _ _; first | refine goR ?_ | refine clR 24 tt rfl rfl rfl (hr := md) (k := ?_) | refine clR 15 tt rfl rfl rfl (hr := lv) (k := ?_) | refine clR 49 tt rfl rfl rfl (hr := e1) (k := ?_) | refine clR 49 tt rfl rfl rfl (hr := e2) (k := ?_) | (refine gdRG ?_ ?_ <;> intro _ <;> try (exfalso; omega)))
        | (show retPost _ _ _ _ _; refine finG ?_))
      refine awp_loop1 (fun (j : Nat) => ([(12, .ptr 12 0), (13, .ptr 13 0), (16, .d (qsD E1)), (18, .d (qsD E2)), (20, .d (.int .i64 j))], [(12, .box 30 ((rC (rq c)).map V.d)), (13, .box 30 ((rC (rq w)).map V.d))])) (fun j => j ≤ 11) (fun j => 11 - j) 0 (by omega) ⟨rfl, rfl, rfl, rfl, rfl, rfl⟩ ⟨rfl, rfl, trivial⟩ (fun j hj => ?_)
      by_cases h4 : j < 11
      · have kx := getD_ok ko (show j < E1.length by omega)
        have m1 := ref03_MulQ (E1.getD j 0) c (kx.mono (by decide)) (kc.mono (by decide))
        have m2 := ref03_AddQ (E1.getD j 0 * c) w ((kx.mul kc).mono (by decide)) (kw.mono (by decide))
        have sm := sameQT (E2.getD j 0) ((getD_ok ko2 (show j < E2.length by omega)).mono (by decide))
        have he := hE j h4
        clear hE ko ko2 kx e1 e2
        by_cases h5 : j < 9
        · rw [if_pos h5] at he
          rw [← he] at m2
          generalize E1.getD j 0 * c = z at *
          repeat' (first
            | (show awpL _ _ _ _ _; first | refine goL ?_ | refine cl 17 tt rfl rfl rfl (hr := m1) (k := ?_) | refine cl 16 tt rfl rfl rfl (hr := m2) (k := ?_) | refine cl 21 tt rfl rfl rfl (hr := sm) (k := ?_) | (refine gdLG ?_ ?_ <;> intro _ <;> try (exfalso; omega)))
            | (show awp _ _ _ _; first | refine goA ?_ | refine rg 9 10 ?_ | refine rgK 18 7 [21] ?_ | refine rg 21 5 ?_ | (refine cdG ?_ ?_ <;> intro _ <;> try (exfalso; omega)))
            | (show andThen _ _ _ _; refine goN ?_)
            | (show inBlock _ _ _ _; refine goB ?_)
            | (show awpR _ _ _ _ _ _ _; first | refine goR ?_ | refine clR 17 tt rfl rfl rfl (hr := m1) (k := ?_) | refine clR 16 tt rfl rfl rfl (hr := m2) (k := ?_) | refine clR 21 tt rfl rfl rfl (hr := sm) (k := ?_) | (refine gdRG ?_ ?_ <;> intro _ <;> try (exfalso; omega)))
            | (show retPost _ _ _ _ _; refine finG ?_))
          exact ⟨j + 1, by omega, by omega, ⟨rfl, rfl, rfl, rfl, iv (by omega), rfl⟩, rfl, rfl, trivial⟩
        · rw [if_neg h5] at he
          rw [← he] at m1
          repeat' (first
            | (show awpL _ _ _ _ _; first | refine goL ?_ | refine cl 17 tt rfl rfl rfl (hr := m1) (k := ?_) | refine cl 21 tt rfl rfl rfl (hr := sm) (k := ?_) | (refine gdLG ?_ ?_ <;> intro _ <;> try (exfalso; omega)))
            | (show awp _ _ _ _; first | refine goA ?_ | refine rg 9 10 ?_ | refine rgK 18 7 [21] ?_ | refine rg 21 5 ?_ | (refine cdG ?_ ?_ <;> intro _ <;> try (exfalso; omega)))
            | (show andThen _ _ _ _; refine goN ?_)
            | (show inBlock _ _ _ _; refine goB ?_)
            | (show awpR _ _ _ _ _ _ _; first | refine goR ?_ | refine clR 17 tt rfl rfl rfl (hr := m1) (k := ?_) | refine clR 21 tt rfl rfl rfl (hr := sm) (k := ?_) | (refine gdRG ?_ ?_ <;> intro _ <;> try (exfalso; omega)))
            | (show retPost _ _ _ _ _; refine finG ?_))
          exact ⟨j + 1, by omega, by omega, ⟨rfl, rfl, rfl, rfl, iv (by omega), rfl⟩, rfl, rfl, trivial⟩
      · repeat' (first
          | (show awpL _ _ _ _ _; first | refine goL ?_ | refine cl 13 tt rfl rfl rfl (hr := aw) (k := ?_) | (refine gdLG ?_ ?_ <;> intro _ <;> try (exfalso; omega)))
          | (show awp _ _ _ _; first | refine goA ?_ | refine rg 9 10 ?_ | refine rgK 18 7 [21] ?_ | refine rg 21 5 ?_ | (refine cdG ?_ ?_ <;> intro _ <;> try (exfalso; omega)))
          | (show andThen _ _ _ _; refine goN ?_)
          | (show inBlock _ _ _ _; refine goB ?_)
          | (show awpR _ _ _ _ _ _ _; first | refine goR ?_ | refine clR 13 tt rfl rfl rfl (hr := aw) (k := ?_) | (refine gdRG ?_ ?_ <;> intro _ <;> try (exfalso; omega)))
          | (show retPost _ _ _ _ _; refine finG ?_))
        all_goals rfl
end Go.Proofs.YtfnckkfbnnbmkaaGreat
