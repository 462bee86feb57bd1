/-
  A statement of the seat: what its contract is, and the claim. Conditions: as each says.
-/
import Derived.Test.YtfnckkfbnnbmkaaGreatA09
set_option linter.unusedVariables false
set_option linter.unusedSimpArgs false
set_option maxHeartbeats 16000000
namespace Go.Proofs.YtfnckkfbnnbmkaaGreat
open Go.Vw
attribute [local irreducible] awp awpL awpR

theorem numbers_ok (raw : List Int) (m : Nat) : ∀ q ∈ (raw.take m).map numQ, okQ 10 q := fun q hq => by
  obtain ⟨v, _, rfl⟩ := List.mem_map.1 hq
  exact ok_numQ v
theorem order_MedianQ (l : List Rat) (h0 : 0 < l.length) (hn : l.length ≤ 12) (hl : ∀ q ∈ l, okQ 1000 q) : Ret Tryz.prog 14 [qsD l] (· = .tup [qD (medLo l), qD (medHi l), .int .i64 0]) := by
  have h := order_Median (l.map rq) (by rw [List.length_map]; exact h0) (by rw [List.length_map]; exact hn) (fun r hr => by
    obtain ⟨q, hq, rfl⟩ := List.mem_map.1 hr
    exact ok_rq (hl q hq))
  rw [mapRvRq] at h
  exact h.args (LeT.cons (leRsQ2 l) LeT.nil)
theorem order_QuantileQ (l : List Rat) (p : Rat) (h0 : 0 < l.length) (hn : l.length ≤ 12) (hl : ∀ q ∈ l, okQ 1000 q) (hp : okQ 1000 p) (p0 : 0 ≤ p) (p1 : p ≤ 1) : Ret Tryz.prog 29 [qsD l, qD p] (· = .tup [qD (qLo l p), qD (qHi l p), .int .i64 0]) := by
  have h := order_Quantile (l.map rq) (rq p) (by rw [List.length_map]; exact h0) (by rw [List.length_map]; exact hn) (fun r hr => by
    obtain ⟨q, hq, rfl⟩ := List.mem_map.1 hr
    exact ok_rq (hl q hq)) (ok_rq hp) (by rw [rv_rq]; exact p0) (by rw [rv_rq]; exact p1)
  rw [mapRvRq, rv_rq] at h
  exact h.args (LeT.cons (leRsQ2 l) (LeT.refl _))
theorem ok_qLo {k : Nat} {l : List Rat} (h : ∀ q ∈ l, okQ k q) (h0 : 0 < l.length) (p : Rat) : okQ k (qLo l p) ∧ okQ k (qHi l p) := by
  have hs := srt_ok h
  have hlen := srt_len l
  unfold qLo qHi
  exact ⟨getD_ok hs (by omega), getD_ok hs (by omega)⟩
theorem ok_med {k : Nat} {l : List Rat} (h : ∀ q ∈ l, okQ k q) (h0 : 0 < l.length) : okQ k (medLo l) ∧ okQ k (medHi l) := by
  have hs := srt_ok h
  have hlen := srt_len l
  unfold medLo medHi
  exact ⟨getD_ok hs (by omega), getD_ok hs (by omega)⟩
theorem split_true (raw : List Int) (level other : Int) (hl : raw.length ≤ 9223372036854775807) (hx : I64 raw) (a1 : -9223372036854775808 ≤ level) (a2 : level < 9223372036854775808) (b1 : -9223372036854775808 ≤ other) (b2 : other < 9223372036854775808) : Ret Tryz.prog 5 [i64s raw, .int .i64 level, .int .i64 other] (· = .bool true) := by
  have aw := law16_awake
  have nu : Ret Tryz.prog 12 [i64s raw, .int .i64 9] (· = qsD ((raw.take 9).map numQ)) := made_Numbers raw 9 hl hx (by decide)
  have lv := made_Level level a1 a2
  have kl := numbers_ok raw 9
  have hlen : ((raw.take 9).map numQ).length ≤ 9 := by simp; omega
  generalize (raw.take 9).map numQ = l at *
  have kp := ok_levQ level
  have bp := levQ_bd level
  generalize levQ level = p at *
  by_cases h0 : l.length = 0
  · refine ret_of_awp tab Tryz.func5 rfl rfl (Nat.le_of_ble_eq_true rfl) (fun w0 F0 => ?_)
    repeat' (first
      | (show awpL _ _ _ _ _; first | refine goL ?_ | refine cl 12 tt rfl rfl rfl (hr := nu) (k := ?_) | refine cl 15 tt rfl rfl rfl (hr := lv) (k := ?_) | refine cl 13 tt rfl rfl rfl (hr := aw) (k := ?_) | (refine gdLG ?_ ?_ <;> intro _ <;> try (exfalso; omega)))
      | (show awp _ _ _ _; first | refine goA ?_ | (refine cdG ?_ ?_ <;> intro _ <;> try (exfalso; omega)))
      | (show andThen _ _ _ _; refine goN ?_)
      | (show inBlock _ _ _ _; refine goB ?_)
      | (show retPost _ _ _ _ _; refine finG ?_))
    rfl
  · have hpos : 0 < l.length := by omega
    have hl2 : ∀ q ∈ l, okQ 1000 q := fun q hq => (kl q hq).mono (by decide)
    have hl3 : ∀ q ∈ l, okQ 100 q := fun q hq => (kl q hq).mono (by decide)
    have qn := order_QuantileQ l p hpos (by omega) hl2 (kp.mono (by decide)) (Rat.le_of_lt bp.1) (Rat.le_of_lt bp.2)
    have md := order_MedianQ l hpos (by omega) hl2
    have fr := ref03_FractionQ 1 2 (by decide) (by decide) (by decide) (by decide)
    rw [show Rat.divInt 1 2 = 1 / 2 by decide +kernel] at fr
    have kh : okQ 10 (1 / 2 : Rat) := okQ_one.div okQ_two2 (by decide) |>.mono (by decide)
    have q2 := order_QuantileQ l (1 / 2) hpos (by omega) hl2 (kh.mono (by decide)) (by decide +kernel) (by decide +kernel)
    rw [(med_half l hpos).1, (med_half l hpos).2] at q2
    have nb := made_Number other b1 b2
    have kv := ok_numQ other
    generalize numQ other = v at *
    obtain ⟨k1, k2⟩ := ok_qLo kl hpos p
    obtain ⟨k3, k4⟩ := ok_med kl hpos
    have le := qLo_le_qHi l p hpos
    have s1 := law16_splits l p (qLo l p) (by omega) hl3 (kp.mono (by decide)) (k1.mono (by decide))
    have s2 := law16_splits l p (qHi l p) (by omega) hl3 (kp.mono (by decide)) (k2.mono (by decide))
    have s3 := law16_splits l p v (by omega) hl3 (kp.mono (by decide)) (kv.mono (by decide))
    rw [splits_iff bp.1 bp.2 hpos] at s1 s2 s3
    rw [decide_eq_true Rat.le_refl, decide_eq_true le, Bool.and_self] at s1
    rw [decide_eq_true le, decide_eq_true Rat.le_refl, Bool.and_self] at s2
    have l1 := ref03_LessQ v (qLo l p) (kv.mono (by decide)) (k1.mono (by decide))
    have l2 := ref03_LessQ (qHi l p) v (k2.mono (by decide)) (kv.mono (by decide))
    rw [show decide (qLo l p ≤ v) = !decide (v < qLo l p) by rw [← decide_not]; exact decide_eq_decide.2 Rat.not_lt.symm, show decide (v ≤ qHi l p) = !decide (qHi l p < v) by rw [← decide_not]; exact decide_eq_decide.2 Rat.not_lt.symm] at s3
    have e1 := sameQT _ (k3.mono (by decide))
    have e2 := sameQT _ (k4.mono (by decide))
    clear k1 k2 k3 k4 le hl2 hl3 kl kv kp bp kh
    generalize decide (v < qLo l p) = z1 at *
    generalize decide (qHi l p < v) = z2 at *
    generalize qLo l p = lo at *
    generalize qHi l p = hi at *
    generalize medLo l = ml at *
    generalize medHi l = mh at *
    generalize (1 / 2 : Rat) = hf at *
    cases z1 <;> cases z2
    all_goals
      refine ret_of_awp tab Tryz.func5 rfl rfl (Nat.le_of_ble_eq_true rfl) (fun w0 F0 => ?_)
      repeat' (first
        | (show awpL _ _ _ _ _; first | refine goL ?_ | refine cl 12 tt rfl rfl rfl (hr := nu) (k := ?_) | refine cl 15 tt rfl rfl rfl (hr := lv) (k := ?_) | refine cl 29 tt rfl rfl rfl (hr := qn) (k := ?_) | refine cl 14 tt rfl rfl rfl (hr := md) (k := ?_) | refine cl 30 tt rfl rfl rfl (hr := fr) (k := ?_) | refine cl 29 tt rfl rfl rfl (hr := q2) (k := ?_) | refine cl 23 tt rfl rfl rfl (hr := nb) (k := ?_) | refine cl 22 tt rfl rfl rfl (hr := l1) (k := ?_) | refine cl 22 tt rfl rfl rfl (hr := l2) (k := ?_) | refine cl 13 tt rfl rfl rfl (hr := aw) (k := ?_) | refine cl 31 tt rfl rfl rfl (hr := s1) (k := ?_) | refine cl 31 tt rfl rfl rfl (hr := s2) (k := ?_) | refine cl 31 tt rfl rfl rfl (hr := s3) (k := ?_) | refine cl 21 tt rfl rfl rfl (hr := e1) (k := ?_) | refine cl 21 tt rfl rfl rfl (hr := e2) (k := ?_) | (refine gdLG ?_ ?_ <;> intro _ <;> try (exfalso; omega)))
        | (show awp _ _ _ _; first | refine goA ?_ | (refine cdG ?_ ?_ <;> intro _ <;> try (exfalso; omega)))
        | (show andThen _ _ _ _; refine goN ?_)
        | (show inBlock _ _ _ _; refine goB ?_)
        | (show retPost _ _ _ _ _; refine finG ?_))
      all_goals first | rfl | (rename_i hc; exact absurd rfl hc)
theorem near_true (raw : List Int) (other share : Int) (hl : raw.length ≤ 9223372036854775807) (hx : I64 raw) (b1 : -9223372036854775808 ≤ other) (b2 : other < 9223372036854775808) (a1 : -9223372036854775808 ≤ share) (a2 : share < 9223372036854775808) : Ret Tryz.prog 3 [i64s raw, .int .i64 other, .int .i64 share] (· = .bool true) := by
  have aw := law16_awake
  have nu : Ret Tryz.prog 12 [i64s raw, .int .i64 9] (· = qsD ((raw.take 9).map numQ)) := made_Numbers raw 9 hl hx (by decide)
  have lv := made_Level share a1 a2
  have kl := numbers_ok raw 9
  have hlen : ((raw.take 9).map numQ).length ≤ 9 := by simp; omega
  generalize (raw.take 9).map numQ = l at *
  have kc := ok_levQ share
  have bc := levQ_bd share
  generalize levQ share = c at *
  by_cases h0 : l.length = 0
  · refine ret_of_awp tab Tryz.func3 rfl rfl (Nat.le_of_ble_eq_true rfl) (fun w0 F0 => ?_)
    repeat' (first
      | (show awpL _ _ _ _ _; first | refine goL ?_ | refine cl 12 tt rfl rfl rfl (hr := nu) (k := ?_) | refine cl 13 tt rfl rfl rfl (hr := aw) (k := ?_) | (refine gdLG ?_ ?_ <;> intro _ <;> try (exfalso; omega)))
      | (show awp _ _ _ _; first | refine goA ?_ | refine rgK 6 10 [12] ?_ | refine rg 8 25 ?_ | (refine cdG ?_ ?_ <;> intro _ <;> try (exfalso; omega)))
      | (show andThen _ _ _ _; refine goN ?_)
      | (show inBlock _ _ _ _; refine goB ?_)
      | (show awpR _ _ _ _ _ _ _; first | refine goR ?_ | refine clR 12 tt rfl rfl rfl (hr := nu) (k := ?_) | refine clR 13 tt rfl rfl rfl (hr := aw) (k := ?_) | (refine gdRG ?_ ?_ <;> intro _ <;> try (exfalso; omega)))
      | (show retPost _ _ _ _ _; refine finG ?_))
    rfl
  · have hpos : 0 < l.length := by omega
    have hl2 : ∀ q ∈ l, okQ 1000 q := fun q hq => (kl q hq).mono (by decide)
    have hl3 : ∀ q ∈ l, okQ 100 q := fun q hq => (kl q hq).mono (by decide)
    have md := order_MedianQ l hpos (by omega) hl2
    have nb := made_Number other b1 b2
    have kv := ok_numQ other
    generalize numQ other = v at *
    obtain ⟨k3, k4⟩ := ok_med kl hpos
    have le := med_le l hpos
    have da := dsum_med hpos Rat.le_refl le
    have db := dsum_med hpos le Rat.le_refl
    have bt := between le (Rat.le_of_lt bc.1) (Rat.le_of_lt bc.2)
    have dm := dsum_med hpos bt.1 bt.2
    have e1 : dsum l (medHi l) = dsum l (medLo l) := Rat.le_antisymm (db _) (da _)
    have e2 : dsum l (c * medLo l + (1 - c) * medHi l) = dsum l (medLo l) := Rat.le_antisymm (dm _) (da _)
    have hv := da v
    have f1 := ref03_FromIntW 1 (by decide) (by decide)
    rw [show ((1 : Int) : Rat) = 1 from rfl] at f1
    have m1 := ref03_MulQ c (medLo l) (kc.mono (by decide)) (k3.mono (by decide))
    have s1 := ref03_SubQ 1 c (okQ_one.mono (by decide)) (kc.mono (by decide))
    have kd := okQ_one.sub kc
    have m2 := ref03_MulQ (1 - c) (medHi l) (kd.mono (by decide)) (k4.mono (by decide))
    have p1 := ref03_AddQ (c * medLo l) ((1 - c) * medHi l) ((kc.mul k3).mono (by decide)) ((kd.mul k4).mono (by decide))
    have km := (kc.mul k3).add (kd.mul k4)
    have t1 := law16_distance l (medLo l) (by omega) hl3 (k3.mono (by decide))
    have t2 := law16_distance l (medHi l) (by omega) hl3 (k4.mono (by decide))
    have t3 := law16_distance l (c * medLo l + (1 - c) * medHi l) (by omega) hl3 (km.mono (by decide))
    have t4 := law16_distance l v (by omega) hl3 (kv.mono (by decide))
    rw [e1] at t2
    rw [e2] at t3
    have ks : okQ 3000 (dsum l (medLo l)) := by
      have := dsum_ok hl3 (k3.mono (show 10 ≤ 100 by decide)) l.length (Nat.le_refl _)
      rw [List.take_length] at this
      refine this.mono ?_
      have : 2 * 100 * l.length ≤ 2 * 100 * 9 := Nat.mul_le_mul_left _ hlen
      omega
    have kt : okQ 3000 (dsum l v) := by
      have := dsum_ok hl3 (kv.mono (show 10 ≤ 100 by decide)) l.length (Nat.le_refl _)
      rw [List.take_length] at this
      refine this.mono ?_
      have : 2 * 100 * l.length ≤ 2 * 100 * 9 := Nat.mul_le_mul_left _ hlen
      omega
    have sa := sameQT _ (ks.mono (by decide))
    have ls := ref03_LessQ (dsum l v) (dsum l (medLo l)) (kt.mono (by decide)) (ks.mono (by decide))
    rw [decide_eq_false (Rat.not_lt.2 hv)] at ls
    clear k3 k4 le da db dm bt e1 e2 hv kd km ks kt hl2 hl3 kl kv kc bc
    generalize dsum l (medLo l) = d1 at *
    generalize dsum l v = d2 at *
    generalize c * medLo l + (1 - c) * medHi l = mm at *
    generalize (1 - c) * medHi l = w2 at *
    generalize c * medLo l = w1 at *
    generalize 1 - c = w3 at *
    generalize medLo l = ml at *
    generalize medHi l = mh at *
    generalize (1 : Rat) = one at *
    refine ret_of_awp tab Tryz.func3 rfl rfl (Nat.le_of_ble_eq_true rfl) (fun w0 F0 => ?_)
    repeat' (first
      | (show awpL _ _ _ _ _; first | refine goL ?_ | refine cl 12 tt rfl rfl rfl (hr := nu) (k := ?_) | refine cl 14 tt rfl rfl rfl (hr := md) (k := ?_) | refine cl 15 tt rfl rfl rfl (hr := lv) (k := ?_) | refine cl 17 tt rfl rfl rfl (hr := m1) (k := ?_) | refine cl 19 tt rfl rfl rfl (hr := f1) (k := ?_) | refine cl 18 tt rfl rfl rfl (hr := s1) (k := ?_) | refine cl 17 tt rfl rfl rfl (hr := m2) (k := ?_) | refine cl 16 tt rfl rfl rfl (hr := p1) (k := ?_) | refine cl 20 tt rfl rfl rfl (hr := t1) (k := ?_) | refine cl 20 tt rfl rfl rfl (hr := t2) (k := ?_) | refine cl 20 tt rfl rfl rfl (hr := t3) (k := ?_) | refine cl 20 tt rfl rfl rfl (hr := t4) (k := ?_) | refine cl 13 tt rfl rfl rfl (hr := aw) (k := ?_) | refine cl 21 tt rfl rfl rfl (hr := sa) (k := ?_) | refine cl 23 tt rfl rfl rfl (hr := nb) (k := ?_) | refine cl 22 tt rfl rfl rfl (hr := ls) (k := ?_) | (refine gdLG ?_ ?_ <;> intro _ <;> try (exfalso; omega)))
      | (show awp _ _ _ _; first | refine goA ?_ | refine rgK 6 10 [12] ?_ | refine rg 8 25 ?_ | (refine cdG ?_ ?_ <;> intro _ <;> try (exfalso; omega)))
      | (show andThen _ _ _ _; refine goN ?_)
      | (show inBlock _ _ _ _; refine goB ?_)
      | (show awpR _ _ _ _ _ _ _; first | refine goR ?_ | refine clR 12 tt rfl rfl rfl (hr := nu) (k := ?_) | refine clR 14 tt rfl rfl rfl (hr := md) (k := ?_) | refine clR 15 tt rfl rfl rfl (hr := lv) (k := ?_) | refine clR 17 tt rfl rfl rfl (hr := m1) (k := ?_) | refine clR 19 tt rfl rfl rfl (hr := f1) (k := ?_) | refine clR 18 tt rfl rfl rfl (hr := s1) (k := ?_) | refine clR 17 tt rfl rfl rfl (hr := m2) (k := ?_) | refine clR 16 tt rfl rfl rfl (hr := p1) (k := ?_) | refine clR 20 tt rfl rfl rfl (hr := t1) (k := ?_) | refine clR 20 tt rfl rfl rfl (hr := t2) (k := ?_) | refine clR 20 tt rfl rfl rfl (hr := t3) (k := ?_) | refine clR 20 tt rfl rfl rfl (hr := t4) (k := ?_) | refine clR 13 tt rfl rfl rfl (hr := aw) (k := ?_) | refine clR 21 tt rfl rfl rfl (hr := sa) (k := ?_) | refine clR 23 tt rfl rfl rfl (hr := nb) (k := ?_) | refine clR 22 tt rfl rfl rfl (hr := ls) (k := ?_) | (refine gdRG ?_ ?_ <;> intro _ <;> try (exfalso; omega)))
      | (show retPost _ _ _ _ _; refine finG ?_))
    all_goals rfl
end Go.Proofs.YtfnckkfbnnbmkaaGreat
