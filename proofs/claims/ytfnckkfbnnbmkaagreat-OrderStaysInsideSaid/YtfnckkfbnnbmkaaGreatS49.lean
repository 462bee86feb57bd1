/-
  A statement of the seat: what its contract is, and the claim. Conditions: as each says.
-/
import Derived.Test.YtfnckkfbnnbmkaaGreatA11
set_option linter.unusedVariables false
set_option linter.unusedSimpArgs false
set_option maxHeartbeats 16000000
namespace Go.Proofs.YtfnckkfbnnbmkaaGreat
open Go.Vw
attribute [local irreducible] awp awpL awpR

theorem same_QW (x y : Rat) (hx : okQ 100000000 x) (hy : okQ 100000000 y) : Ret Tryz.prog 21 [qD x, qD y] (· = .bool (decide (x = y))) := by
  have := ref03_Same (rq x) (rq y) (okRof hx) (okRof hy)
  rw [show decide (rq x = rq y) = decide (x = y) from decide_eq_decide.2 ⟨rq_inj, fun h => by rw [h]⟩] at this
  exact this
theorem stays_true (raw : List Int) (level g : Int) (hl : raw.length ≤ 9223372036854775807) (hx : I64 raw) (a1 : -9223372036854775808 ≤ level) (a2 : level < 9223372036854775808) (b1 : -9223372036854775808 ≤ g) (b2 : g < 9223372036854775808) : Ret Tryz.prog 11 [i64s raw, .int .i64 level, .int .i64 g] (· = .bool true) := by
  have aw := law16_awake
  have nu : Ret Tryz.prog 12 [i64s raw, .int .i64 9] (· = qsD ((raw.take 9).map numQ)) := made_Numbers raw 9 hl hx (by decide)
  have lv := made_Level level a1 a2
  have kl := numbers_ok raw 9
  have hlen : ((raw.take 9).map numQ).length ≤ 9 := by simp; omega
  generalize (raw.take 9).map numQ = l at *
  have kp := ok_levQ level
  have bp := levQ_bd level
  generalize levQ level = p at *
  by_cases h0 : l.length < 2
  · refine ret_of_awp tab Tryz.func11 rfl rfl (Nat.le_of_ble_eq_true rfl) (fun w0 F0 => ?_)
    repeat' (first
      | (show awpL _ _ _ _ _; first | refine goL ?_ | refine cl 12 tt rfl rfl rfl (hr := nu) (k := ?_) | refine cl 13 tt rfl rfl rfl (hr := aw) (k := ?_) | (refine gdLG ?_ ?_ <;> intro _ <;> try (exfalso; omega)))
      | (show awp _ _ _ _; first | refine goA ?_ | refine rg 13 19 ?_ | refine rg 19 5 ?_ | refine rgK 20 6 [16] ?_ | refine rg 21 9 ?_ | refine rg 22 13 ?_ | (refine cdG ?_ ?_ <;> intro _ <;> try (exfalso; omega)))
      | (show andThen _ _ _ _; refine goN ?_)
      | (show inBlock _ _ _ _; refine goB ?_)
      | (show awpR _ _ _ _ _ _ _; first | refine goR ?_ | refine clR 12 tt rfl rfl rfl (hr := nu) (k := ?_) | refine clR 13 tt rfl rfl rfl (hr := aw) (k := ?_) | (refine gdRG ?_ ?_ <;> intro _ <;> try (exfalso; omega)))
      | (show retPost _ _ _ _ _; refine finG ?_))
    rfl
  · have md := made_ModW g (((l.length : Int) + 1) / 2) b1 b2 (by omega) (by omega)
    have mb := modN g (show 0 < (l.length + 1) / 2 by omega)
    rw [show (((l.length + 1) / 2 : Nat) : Int) = ((l.length : Int) + 1) / 2 by omega] at mb
    generalize g % (((l.length : Int) + 1) / 2) = k at *
    obtain ⟨k, rfl⟩ : ∃ m : Nat, k = m := ⟨k.toNat, by omega⟩
    have kl2 := okQ_mono kl (show 10 ≤ 100 by decide)
    have e1 := law16_estimates l p k (by omega) (by omega) kl2 (kp.mono (by decide)) (Rat.le_of_lt bp.1) (Rat.le_of_lt bp.2) (by omega)
    have e2 : Ret Tryz.prog 49 [qsD l, qD p, .int .i64 0] (· = .tup [qsD (estL l p 0), .bool true]) := law16_estimates l p 0 (by omega) (by omega) kl2 (kp.mono (by decide)) (Rat.le_of_lt bp.1) (Rat.le_of_lt bp.2) (by omega)
    have so := ref16_SortQ2 l (by omega) (okQ_mono kl (by decide))
    have hsl := srt_len l
    have kso := srt_ok kl
    have ko := est_ok (p := p) (g := k) (show 2 ≤ l.length by omega) (by omega) kl2 (by omega)
    have hw := within_srt (l := l) (by omega)
    have hin := hw.est (by omega) (by omega) p (g := k) (by omega)
    obtain ⟨z1, z2⟩ := scale_nonneg (l := l) (by omega) (by omega)
    have zz : (srt l).getD 0 0 = (srt l).getD (l.length - 1) 0 → midQ (distQ l (midQ l)) = 0 ∧ qnQ l = 0 := fun h => by
      refine scale_zero (v := (srt l).getD 0 0) (by omega) (by omega) fun x hx => ?_
      have := hw x hx
      rw [← h] at this
      exact Rat.le_antisymm this.2 this.1
    have g9 : (estL l p k).getD 9 0 = midQ (distQ l (midQ l)) := rfl
    have g10 : (estL l p k).getD 10 0 = qnQ l := rfl
    have g7 : (estL l p 0).getD 7 0 = meanQ l := by rw [← trim_zero]; rfl
    have g8 : (estL l p 0).getD 8 0 = meanQ l := by rw [← win_zero]; rfl
    have l1 : (estL l p k).length = 11 := rfl
    have l2 : (estL l p 0).length = 11 := rfl
    have kmean : okQ 100000 (meanQ l) := by
      have kn : okQ 10 ((l.length : Int) : Rat) := ok_intW (by omega)
      exact ((sumQ_ok kl).div kn (len_ne (by omega))).mono (by omega)
    rw [← g9, ← g10] at zz
    rw [← g9] at z1
    rw [← g10] at z2
    have k9 := getD_ok ko (show 9 < (estL l p k).length by rw [l1]; decide)
    have k10 := getD_ok ko (show 10 < (estL l p k).length by rw [l1]; decide)
    have sg9 := ref03_SignQ _ (k9.mono (show 100000 ≤ 1000000 by decide))
    have sg10 := ref03_SignQ _ (k10.mono (show 100000 ≤ 1000000 by decide))
    have s9 : 0 ≤ ((estL l p k).getD 9 0).num.sign := Int.sign_nonneg_iff.2 (Rat.num_nonneg.2 z1)
    have s10 : 0 ≤ ((estL l p k).getD 10 0).num.sign := Int.sign_nonneg_iff.2 (Rat.num_nonneg.2 z2)
    have kf := getD_ok kso (show 0 < (srt l).length by omega)
    have kla := getD_ok kso (show l.length - 1 < (srt l).length by omega)
    have sq := same_QW ((srt l).getD 0 0) ((srt l).getD (l.length - 1) 0) (kf.mono (by decide)) (kla.mono (by decide))
    have zs : decide ((srt l).getD 0 0 = (srt l).getD (l.length - 1) 0) = true → ((estL l p k).getD 9 0).num.sign = 0 ∧ ((estL l p k).getD 10 0).num.sign = 0 := fun h => by
      obtain ⟨y1, y2⟩ := zz (of_decide_eq_true h)
      rw [y1, y2]; exact ⟨rfl, rfl⟩
    have hin9 : ∀ i, i < 9 → (srt l).getD 0 0 ≤ (estL l p k).getD i 0 ∧ (estL l p k).getD i 0 ≤ (srt l).getD (l.length - 1) 0 := fun i hi => by
      refine hin _ ?_
      have : i = 0 ∨ i = 1 ∨ i = 2 ∨ i = 3 ∨ i = 4 ∨ i = 5 ∨ i = 6 ∨ i = 7 ∨ i = 8 := by omega
      rcases this with rfl | rfl | rfl | rfl | rfl | rfl | rfl | rfl | rfl <;> simp [estL]
    have sm := sameQT (meanQ l) (kmean.mono (by decide))
    clear hin hw zz z1 z2 g9 g10 bp kp mb kmean k9 k10
    obtain ⟨x7, hx7⟩ : ∃ x, (estL l p 0).getD 7 0 = x := ⟨_, rfl⟩
    generalize estL l p k = E1 at *
    generalize estL l p 0 = E2 at *
    have sm7 : Ret Tryz.prog 21 [qD (E2.getD 7 0), qD (meanQ l)] (· = .bool true) := by rw [g7]; exact sm
    have sm8 : Ret Tryz.prog 21 [qD (E2.getD 8 0), qD (meanQ l)] (· = .bool true) := by rw [g8]; exact sm
    clear g7 g8 hx7 sm
    generalize srt l = S at *
    have ix : ((S.length : Int) - 1).toNat = l.length - 1 := by omega
    refine ret_of_awp tab Tryz.func11 rfl rfl (Nat.le_of_ble_eq_true rfl) (fun w0 F0 => ?_)
    repeat' (first
      | (show awpL _ _ _ _ _; first | refine goL ?_ | refine cl 12 tt rfl rfl rfl (hr := nu) (k := ?_) | refine cl 24 tt rfl rfl rfl (hr := md) (k := ?_) | refine cl 15 tt rfl rfl rfl (hr := lv) (k := ?_) | refine cl 49 tt rfl rfl rfl (hr := e1) (k := ?_) | refine cl 49 tt rfl rfl rfl (hr := e2) (k := ?_) | refine cl 26 tt rfl rfl rfl (hr := so) (k := ?_) | (refine gdLG ?_ ?_ <;> intro _ <;> try (exfalso; omega)))
      | (show awp _ _ _ _; first | refine goA ?_ | refine rg 13 19 ?_ | refine rg 19 5 ?_ | refine rgK 20 6 [16] ?_ | refine rg 21 9 ?_ | refine rg 22 13 ?_ | (refine cdG ?_ ?_ <;> intro _ <;> try (exfalso; omega)))
      | (show andThen _ _ _ _; refine goN ?_)
      | (show inBlock _ _ _ _; refine goB ?_)
      | (show awpR _ _ _ _ _ _ _; first | refine goR ?_ | refine clR 12 tt rfl rfl rfl (hr := nu) (k := ?_) | refine clR 24 tt rfl rfl rfl (hr := md) (k := ?_) | refine clR 15 tt rfl rfl rfl (hr := lv) (k := ?_) | refine clR 49 tt rfl rfl rfl (hr := e1) (k := ?_) | refine clR 49 tt rfl rfl rfl (hr := e2) (k := ?_) | refine clR 26 tt rfl rfl rfl (hr := so) (k := ?_) | (refine gdRG ?_ ?_ <;> intro _ <;> try (exfalso; omega)))
      | (show retPost _ _ _ _ _; refine finG ?_))
    refine awp_loop1 (fun (i : Nat) => ([(7, .d (qsD l)), (8, .d (qsD E1)), (10, .d (qsD E2)), (12, .d (qsD S)), (13, .d (.int .i64 i))], [])) (fun i => i ≤ 9) (fun i => 9 - i) 0 (by omega) ⟨rfl, rfl, rfl, rfl, rfl, rfl⟩ trivial (fun i hi => ?_)
    by_cases h3 : i < 9
    · obtain ⟨w1, w2⟩ := hin9 i h3
      have kx := getD_ok ko (show i < E1.length by omega)
      have lt1 := ref03_LessQ (E1.getD i 0) (S.getD 0 0) (kx.mono (by decide)) (kf.mono (by decide))
      have lt2 := ref03_LessQ (S.getD (l.length - 1) 0) (E1.getD i 0) (kla.mono (by decide)) (kx.mono (by decide))
      rw [decide_eq_false (Rat.not_lt.2 w1)] at lt1
      rw [decide_eq_false (Rat.not_lt.2 w2)] at lt2
      rw [← ix] at lt2
      clear hin9 zs s9 s10 sg9 sg10 sq w1 w2 ko kso kl kl2
      repeat' (first
        | (show awpL _ _ _ _ _; first | refine goL ?_ | refine cl 22 tt rfl rfl rfl (hr := lt1) (k := ?_) | refine cl 22 tt rfl rfl rfl (hr := lt2) (k := ?_) | (refine gdLG ?_ ?_ <;> intro _ <;> try (exfalso; omega)))
        | (show awp _ _ _ _; first | refine goA ?_ | refine rg 13 19 ?_ | refine rg 19 5 ?_ | refine rgK 20 6 [16] ?_ | refine rg 21 9 ?_ | refine rg 22 13 ?_ | (refine cdG ?_ ?_ <;> intro _ <;> try (exfalso; omega)))
        | (show andThen _ _ _ _; refine goN ?_)
        | (show inBlock _ _ _ _; refine goB ?_)
        | (show awpR _ _ _ _ _ _ _; first | refine goR ?_ | refine clR 22 tt rfl rfl rfl (hr := lt1) (k := ?_) | refine clR 22 tt rfl rfl rfl (hr := lt2) (k := ?_) | (refine gdRG ?_ ?_ <;> intro _ <;> try (exfalso; omega)))
        | (show retPost _ _ _ _ _; refine finG ?_))
      exact ⟨i + 1, by omega, by omega, ⟨rfl, rfl, rfl, rfl, iv (by omega), rfl⟩, trivial⟩
    · clear hin9 ko
      repeat' (first
        | (show awpL _ _ _ _ _; first | refine goL ?_ | (refine gdLG ?_ ?_ <;> intro _ <;> try (exfalso; omega)))
        | (show awp _ _ _ _; first | refine goA ?_ | refine rg 13 19 ?_ | refine rg 19 5 ?_ | refine rgK 20 6 [16] ?_ | refine rg 21 9 ?_ | refine rg 22 13 ?_ | (refine cdG ?_ ?_ <;> intro _ <;> try (exfalso; omega)))
        | (show andThen _ _ _ _; refine goN ?_)
        | (show inBlock _ _ _ _; refine goB ?_)
        | (show awpR _ _ _ _ _ _ _; first | refine goR ?_ | (refine gdRG ?_ ?_ <;> intro _ <;> try (exfalso; omega)))
        | (show retPost _ _ _ _ _; refine finG ?_))
      refine awp_rebox 14 (rC (rq 0)) rfl rfl (by rw [rq_zero]; exact leL) ?_
      refine awp_loop1 (fun (j : Nat) => ([(7, .d (qsD l)), (8, .d (qsD E1)), (10, .d (qsD E2)), (12, .d (qsD S)), (14, .ptr 14 0), (15, .d (.int .i64 j))], [(14, .box 30 ((rC (rq (sumQ (l.take j)))).map V.d))])) (fun j => j ≤ l.length) (fun j => l.length - j) 0 (by omega) ⟨rfl, rfl, rfl, rfl, rfl, rfl, rfl⟩ ⟨rfl, trivial⟩ (fun j hj => ?_)
      have kd := sumT_ok (n := 9) kl (by omega) j
      by_cases h4 : j < l.length
      · have kx := getD_ok kl h4
        have e := sumQ_take h4
        have hp := ref03_AddQ (sumQ (l.take j)) (l.getD j 0) (kd.mono (by decide)) (kx.mono (by decide))
        rw [← e] at hp
        clear kd kx e zs s9 s10 sg9 sg10 sq kso kl kl2
        generalize sumQ (l.take j) = d0 at *
        obtain ⟨d1, hd1⟩ : ∃ d1, sumQ (l.take (j + 1)) = d1 := ⟨_, rfl⟩
        rw [hd1] at hp
        repeat' (first
          | (show awpL _ _ _ _ _; first | refine goL ?_ | refine cl 16 tt rfl rfl rfl (hr := hp) (k := ?_) | (refine gdLG ?_ ?_ <;> intro _ <;> try (exfalso; omega)))
          | (show awp _ _ _ _; first | refine goA ?_ | refine rg 13 19 ?_ | refine rg 19 5 ?_ | refine rgK 20 6 [16] ?_ | refine rg 21 9 ?_ | refine rg 22 13 ?_ | (refine cdG ?_ ?_ <;> intro _ <;> try (exfalso; omega)))
          | (show andThen _ _ _ _; refine goN ?_)
          | (show inBlock _ _ _ _; refine goB ?_)
          | (show awpR _ _ _ _ _ _ _; first | refine goR ?_ | refine clR 16 tt rfl rfl rfl (hr := hp) (k := ?_) | (refine gdRG ?_ ?_ <;> intro _ <;> try (exfalso; omega)))
          | (show retPost _ _ _ _ _; refine finG ?_))
        exact ⟨j + 1, by omega, by omega, ⟨rfl, rfl, rfl, rfl, rfl, iv (by omega), rfl⟩, by rw [hd1]; rfl, trivial⟩
      · have e : l.take j = l := List.take_of_length_le (by omega)
        rw [e] at kd ⊢
        have f := ref03_FromIntW (l.length : Int) (by omega) (by omega)
        have kn : okQ 10 ((l.length : Int) : Rat) := ok_intW (by omega)
        have d := ref03_QuoQ (sumQ l) ((l.length : Int) : Rat) (kd.mono (by decide)) (kn.mono (by decide)) (len_ne (by omega))
        rw [show sumQ l / ((l.length : Int) : Rat) = meanQ l from rfl] at d
        have sq2 : Ret Tryz.prog 21 [qD (S.getD 0 0), qD (S.getD ((S.length : Int) - 1).toNat 0)] (· = .bool (decide (S.getD 0 0 = S.getD (l.length - 1) 0))) := by rw [ix]; exact sq
        clear kd kn kf kla kso kl kl2 sq ix
        generalize meanQ l = mq at *
        generalize ((l.length : Int) : Rat) = nq at *
        generalize sumQ l = sl at *
        generalize (E1.getD 9 0).num.sign = y9 at *
        generalize (E1.getD 10 0).num.sign = y10 at *
        generalize decide (S.getD 0 0 = S.getD (l.length - 1) 0) = eb at *
        cases eb
        · clear zs
          repeat' (first
            | (show awpL _ _ _ _ _; first | refine goL ?_ | refine cl 19 tt rfl rfl rfl (hr := f) (k := ?_) | refine cl 51 tt rfl rfl rfl (hr := d) (k := ?_) | refine cl 21 tt rfl rfl rfl (hr := sq2) (k := ?_) | refine cl 13 tt rfl rfl rfl (hr := aw) (k := ?_) | refine cl 21 tt rfl rfl rfl (hr := sm7) (k := ?_) | refine cl 21 tt rfl rfl rfl (hr := sm8) (k := ?_) | refine cl 52 tt rfl rfl rfl (hr := sg9) (k := ?_) | refine cl 52 tt rfl rfl rfl (hr := sg10) (k := ?_) | (refine gdLG ?_ ?_ <;> intro _ <;> try (exfalso; omega)))
            | (show awp _ _ _ _; first | refine goA ?_ | refine rg 13 19 ?_ | refine rg 19 5 ?_ | refine rgK 20 6 [16] ?_ | refine rg 21 9 ?_ | refine rg 22 13 ?_ | (refine cdG ?_ ?_ <;> intro _ <;> try (exfalso; omega)))
            | (show andThen _ _ _ _; refine goN ?_)
            | (show inBlock _ _ _ _; refine goB ?_)
            | (show awpR _ _ _ _ _ _ _; first | refine goR ?_ | refine clR 19 tt rfl rfl rfl (hr := f) (k := ?_) | refine clR 51 tt rfl rfl rfl (hr := d) (k := ?_) | refine clR 21 tt rfl rfl rfl (hr := sq2) (k := ?_) | refine clR 13 tt rfl rfl rfl (hr := aw) (k := ?_) | refine clR 21 tt rfl rfl rfl (hr := sm7) (k := ?_) | refine clR 21 tt rfl rfl rfl (hr := sm8) (k := ?_) | refine clR 52 tt rfl rfl rfl (hr := sg9) (k := ?_) | refine clR 52 tt rfl rfl rfl (hr := sg10) (k := ?_) | (refine gdRG ?_ ?_ <;> intro _ <;> try (exfalso; omega)))
            | (show retPost _ _ _ _ _; refine finG ?_))
          all_goals first | rfl | (rename_i hc; exact absurd rfl hc)
        · obtain ⟨y1, y2⟩ := zs rfl
          subst y1 y2
          repeat' (first
            | (show awpL _ _ _ _ _; first | refine goL ?_ | refine cl 19 tt rfl rfl rfl (hr := f) (k := ?_) | refine cl 51 tt rfl rfl rfl (hr := d) (k := ?_) | refine cl 21 tt rfl rfl rfl (hr := sq2) (k := ?_) | refine cl 13 tt rfl rfl rfl (hr := aw) (k := ?_) | refine cl 21 tt rfl rfl rfl (hr := sm7) (k := ?_) | refine cl 21 tt rfl rfl rfl (hr := sm8) (k := ?_) | refine cl 52 tt rfl rfl rfl (hr := sg9) (k := ?_) | refine cl 52 tt rfl rfl rfl (hr := sg10) (k := ?_) | (refine gdLG ?_ ?_ <;> intro _ <;> try (exfalso; omega)))
            | (show awp _ _ _ _; first | refine goA ?_ | refine rg 13 19 ?_ | refine rg 19 5 ?_ | refine rgK 20 6 [16] ?_ | refine rg 21 9 ?_ | refine rg 22 13 ?_ | (refine cdG ?_ ?_ <;> intro _ <;> try (exfalso; omega)))
            | (show andThen _ _ _ _; refine goN ?_)
            | (show inBlock _ _ _ _; refine goB ?_)
            | (show awpR _ _ _ _ _ _ _; first | refine goR ?_ | refine clR 19 tt rfl rfl rfl (hr := f) (k := ?_) | refine clR 51 tt rfl rfl rfl (hr := d) (k := ?_) | refine clR 21 tt rfl rfl rfl (hr := sq2) (k := ?_) | refine clR 13 tt rfl rfl rfl (hr := aw) (k := ?_) | refine clR 21 tt rfl rfl rfl (hr := sm7) (k := ?_) | refine clR 21 tt rfl rfl rfl (hr := sm8) (k := ?_) | refine clR 52 tt rfl rfl rfl (hr := sg9) (k := ?_) | refine clR 52 tt rfl rfl rfl (hr := sg10) (k := ?_) | (refine gdRG ?_ ?_ <;> intro _ <;> try (exfalso; omega)))
            | (show retPost _ _ _ _ _; refine finG ?_))
          all_goals first | rfl | (rename_i hc; exact absurd rfl hc)
end Go.Proofs.YtfnckkfbnnbmkaaGreat
