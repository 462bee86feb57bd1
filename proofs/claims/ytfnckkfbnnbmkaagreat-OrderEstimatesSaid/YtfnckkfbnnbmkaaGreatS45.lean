/-
  A statement of the seat: what its contract is, and the claim. Conditions: as each says.
-/
import Derived.Test.YtfnckkfbnnbmkaaGreatA11
set_option linter.unusedVariables false
set_option linter.unusedSimpArgs false
set_option maxHeartbeats 16000000
namespace Go.Proofs.YtfnckkfbnnbmkaaGreat
open Go.Vw
attribute [local irreducible] awp awpL awpR

theorem pair_Dev (l : List R3) (hn : l.length ≤ 12) (hl : ∀ r ∈ l, RatOk r 9) : ∃ (a : R3) (e : Int), Ret Tryz.prog 33 [rsD l] (· = .tup [rD a, .int .i64 e]) ∧ Ret Tryz.prog 34 [rsD l] (· = .tup [rD a, .int .i64 e]) ∧ Ret Tryz.prog 21 [rD a, rD a] (· = .bool true) := by
  have ol : ∀ r ∈ l, RatOk r 100 := fun r hr => (hl r hr).up (by decide)
  by_cases h0 : l.length = 0
  · exact ⟨r0, 10, order_DeviationE l (by omega), ref16_DeviationE l (by omega), same_r0⟩
  · have km := midQ_ok (mapq_ok fun r hr => (ol r hr).up (by decide)) (by rw [List.length_map]; omega)
    have kd : ∀ q ∈ distQ (l.map rv) (midQ (l.map rv)), okQ 10000 q := fun q hq2 => by
      obtain ⟨x, hx, rfl⟩ := List.mem_map.1 hq2
      exact (absQ_ok ((mapq_ok (fun r hr => (ol r hr).up (by decide)) x hx).sub km)).mono (by decide)
    have k2 := midQ_ok kd (by unfold distQ; rw [List.length_map, List.length_map]; omega)
    exact ⟨rq _, 0, order_Deviation l (by omega) (by omega) ol, ref16_Deviation l (by omega) (by omega) ol, sameQT _ (k2.mono (by decide))⟩
theorem pair_HL (l : List R3) (hn : l.length ≤ 12) (hl : ∀ r ∈ l, RatOk r 9) : ∃ (a b : R3) (e : Int), Ret Tryz.prog 35 [rsD l] (· = .tup [rD a, rD b, .int .i64 e]) ∧ Ret Tryz.prog 36 [rsD l] (· = .tup [rD a, rD b, .int .i64 e]) ∧ Ret Tryz.prog 21 [rD a, rD a] (· = .bool true) ∧ Ret Tryz.prog 21 [rD b, rD b] (· = .bool true) := by
  have ol : ∀ r ∈ l, RatOk r 100 := fun r hr => (hl r hr).up (by decide)
  by_cases h0 : l.length = 0
  · exact ⟨r0, r0, 10, order_HodgesLehmannE l (by omega), ref16_HodgesLehmannE l (by omega), same_r0, same_r0⟩
  · have hq := mapq_ok fun r hr => (ol r hr).up (show 100 ≤ 1000 by decide)
    have hlen := hlL_len (l := l.map rv) (by rw [List.length_map]; omega) (by rw [List.length_map]; omega)
    have ho : ∀ q ∈ hlL (l.map rv), okQ 10000 q := fun q h => (hlTake_ok hq _ (Nat.le_refl _) q h).mono (by decide)
    obtain ⟨k1, k2⟩ := ok_med ho hlen.2
    exact ⟨rq _, rq _, 0, order_HodgesLehmann l (by omega) hn ol, ref16_HodgesLehmann l (by omega) hn ol, sameQT _ (k1.mono (by decide)), sameQT _ (k2.mono (by decide))⟩
theorem pair_Qn (l : List R3) (hn : l.length ≤ 12) (hl : ∀ r ∈ l, RatOk r 9) : ∃ (a : R3) (e : Int), Ret Tryz.prog 37 [rsD l] (· = .tup [rD a, .int .i64 e]) ∧ Ret Tryz.prog 38 [rsD l] (· = .tup [rD a, .int .i64 e]) ∧ Ret Tryz.prog 21 [rD a, rD a] (· = .bool true) := by
  have ol : ∀ r ∈ l, RatOk r 100 := fun r hr => (hl r hr).up (by decide)
  by_cases h0 : l.length < 2
  · exact ⟨r0, 10, order_QnE l (by omega), ref16_QnE l (by omega), same_r0⟩
  · have hq := mapq_ok fun r hr => (ol r hr).up (show 100 ≤ 1000 by decide)
    have hlen := qn_at (l := l.map rv) (by rw [List.length_map]; omega) (by rw [List.length_map]; omega)
    have ho : ∀ q ∈ qnL (l.map rv), okQ 10000 q := fun q h => (qnTake_ok hq _ (Nat.le_refl _) q h).mono (by decide)
    have k1 : okQ 10000 (qnQ (l.map rv)) := by
      unfold qnQ
      exact getD_ok (srt_ok ho) (by rw [srt_len]; exact hlen.2.1)
    exact ⟨rq _, 0, order_Qn l (by omega) hn ol, ref16_Qn l (by omega) hn ol, sameQT _ (k1.mono (by decide))⟩
theorem cutE_zero {n : Nat} {g : Int} (h : cutE n g = 0) : 0 < n ∧ 0 ≤ g ∧ g ≤ ((n : Int) - 1) / 2 := by
  unfold cutE at h
  split at h
  · exact absurd h (by decide)
  · split at h
    · exact absurd h (by decide)
    · split at h
      · exact absurd h (by decide)
      · omega
theorem trim_ok {l : List Rat} {g : Nat} (hl : ∀ q ∈ l, okQ 1000 q) (hn : l.length ≤ 12) (h0 : 0 < l.length) (hg : g ≤ (l.length - 1) / 2) : okQ 100000 (trimQ l g) := by
  have hk : (trimR l g).length = l.length - g - g := by unfold trimR; rw [List.length_take, List.length_drop, srt_len]; omega
  have h1 := sumQ_ok (l := trimR l g) (k := 1000) (by unfold trimR; exact takeQ_ok (dropQ_ok (srt_ok hl) g) _)
  have kn : okQ 10 (((trimR l g).length : Int) : Rat) := ok_intW (by omega)
  have hne : (((trimR l g).length : Int) : Rat) ≠ 0 := fun h => by have := Rat.intCast_eq_zero_iff.1 h; omega
  exact (h1.div kn hne).mono (by omega)
theorem win_ok {l : List Rat} {g : Nat} (hl : ∀ q ∈ l, okQ 1000 q) (hn : l.length ≤ 12) (h0 : 0 < l.length) (hg : g ≤ (l.length - 1) / 2) : okQ 100000 (winQ l g) := by
  have hk : (winL (srt l) g g).length = l.length := by rw [winL_len, srt_len]
  have h1 := sumQ_ok (l := winL (srt l) g g) (k := 1000) (fun q hq => srt_ok hl q (winL_mem _ g (by rw [srt_len]; omega) g q hq))
  have kn : okQ 10 (((winL (srt l) g g).length : Int) : Rat) := ok_intW (by omega)
  have hne : (((winL (srt l) g g).length : Int) : Rat) ≠ 0 := fun h => by have := Rat.intCast_eq_zero_iff.1 h; omega
  exact (h1.div kn hne).mono (by omega)
theorem pair_Tr (l : List R3) (g : Int) (hn : l.length ≤ 12) (hl : ∀ r ∈ l, RatOk r 9) (h1 : -9223372036854775808 ≤ g) (h2 : g < 9223372036854775808) : ∃ (a b : R3) (e : Int), Ret Tryz.prog 28 [rsD l, .int .i64 g] (· = .tup [rD a, .int .i64 e]) ∧ Ret Tryz.prog 39 [rsD l, .int .i64 g] (· = .tup [rD a, .int .i64 e]) ∧ Ret Tryz.prog 40 [rsD l, .int .i64 g] (· = .tup [rD b, .int .i64 e]) ∧ Ret Tryz.prog 41 [rsD l, .int .i64 g] (· = .tup [rD b, .int .i64 e]) ∧ Ret Tryz.prog 21 [rD a, rD a] (· = .bool true) ∧ Ret Tryz.prog 21 [rD b, rD b] (· = .bool true) := by
  have ol : ∀ r ∈ l, RatOk r 1000 := fun r hr => (hl r hr).up (by decide)
  by_cases he : cutE l.length g = 0
  · obtain ⟨a1, a2, a3⟩ := cutE_zero he
    obtain ⟨k, rfl⟩ : ∃ k : Nat, g = k := ⟨g.toNat, by omega⟩
    have k1 := trim_ok (g := k) (mapq_ok ol) (by rw [List.length_map]; exact hn) (by rw [List.length_map]; omega) (by rw [List.length_map]; omega)
    have k2 := win_ok (g := k) (mapq_ok ol) (by rw [List.length_map]; exact hn) (by rw [List.length_map]; omega) (by rw [List.length_map]; omega)
    exact ⟨rq _, rq _, 0, order_Trimmed l k (by omega) (by omega) ol (by omega), ref16_Trimmed l k (by omega) (by omega) ol (by omega), order_Winsorised l k (by omega) (by omega) ol (by omega), ref16_Winsorised l k (by omega) (by omega) ol (by omega), sameQT _ (k1.mono (by decide)), sameQT _ (k2.mono (by decide))⟩
  · exact ⟨r0, r0, _, order_TrimmedE l g (by omega) h1 h2 he, ref16_TrimmedE l g (by omega) h1 h2 he, order_WinsorisedE l g (by omega) h1 h2 he, ref16_WinsorisedE l g (by omega) h1 h2 he, same_r0, same_r0⟩
theorem estimates_true (l : List R3) (g : Int) (hn : l.length ≤ 9223372036854775807) (hl : ∀ r ∈ l, RawR r) (h1 : -9223372036854775808 ≤ g) (h2 : g < 9223372036854775808) : Ret Tryz.prog 6 [rsD l, .int .i64 g] (· = .bool true) := by
  have aw := law16_awake
  have lt := law16_light l hl (by omega)
  by_cases hL : lightLs l 12 = true
  · obtain ⟨n12, ol⟩ := light_of hl hL
    rw [hL] at lt
    obtain ⟨a, e, d1, d2, d3⟩ := pair_Dev l n12 ol
    obtain ⟨c, d, h, p1, p2, p3, p4⟩ := pair_HL l n12 ol
    obtain ⟨r, j, q1, q2, q3⟩ := pair_Qn l n12 ol
    obtain ⟨t, v, m, u1, u2, u3, u4, u5, u6⟩ := pair_Tr l g n12 ol h1 h2
    clear hL hl ol
    refine ret_of_awp tab Tryz.func6 rfl rfl (Nat.le_of_ble_eq_true rfl) (fun w0 F0 => ?_)
    repeat' (first
      | (show awpL _ _ _ _ _; first | refine goL ?_ | refine cl 32 tt rfl rfl rfl (hr := lt) (k := ?_) | refine cl 33 tt rfl rfl rfl (hr := d1) (k := ?_) | refine cl 34 tt rfl rfl rfl (hr := d2) (k := ?_) | refine cl 35 tt rfl rfl rfl (hr := p1) (k := ?_) | refine cl 36 tt rfl rfl rfl (hr := p2) (k := ?_) | refine cl 37 tt rfl rfl rfl (hr := q1) (k := ?_) | refine cl 38 tt rfl rfl rfl (hr := q2) (k := ?_) | refine cl 28 tt rfl rfl rfl (hr := u1) (k := ?_) | refine cl 39 tt rfl rfl rfl (hr := u2) (k := ?_) | refine cl 40 tt rfl rfl rfl (hr := u3) (k := ?_) | refine cl 41 tt rfl rfl rfl (hr := u4) (k := ?_) | refine cl 13 tt rfl rfl rfl (hr := aw) (k := ?_) | refine cl 21 tt rfl rfl rfl (hr := d3) (k := ?_) | refine cl 21 tt rfl rfl rfl (hr := p3) (k := ?_) | refine cl 21 tt rfl rfl rfl (hr := p4) (k := ?_) | refine cl 21 tt rfl rfl rfl (hr := q3) (k := ?_) | refine cl 21 tt rfl rfl rfl (hr := u5) (k := ?_) | refine cl 21 tt rfl rfl rfl (hr := u6) (k := ?_) | (refine gdLG ?_ ?_ <;> intro _ <;> try (exfalso; omega)))
      | (show awp _ _ _ _; first | refine goA ?_ | (refine cdG ?_ ?_ <;> intro _ <;> try (exfalso; omega)))
      | (show andThen _ _ _ _; refine goN ?_)
      | (show inBlock _ _ _ _; refine goB ?_)
      | (show retPost _ _ _ _ _; refine finG ?_))
    all_goals simp
  · rw [Bool.eq_false_iff.2 hL] at lt
    refine ret_of_awp tab Tryz.func6 rfl rfl (Nat.le_of_ble_eq_true rfl) (fun w0 F0 => ?_)
    repeat' (first
      | (show awpL _ _ _ _ _; first | refine goL ?_ | refine cl 32 tt rfl rfl rfl (hr := lt) (k := ?_) | refine cl 13 tt rfl rfl rfl (hr := aw) (k := ?_) | (refine gdLG ?_ ?_ <;> intro _ <;> try (exfalso; omega)))
      | (show awp _ _ _ _; first | refine goA ?_ | (refine cdG ?_ ?_ <;> intro _ <;> try (exfalso; omega)))
      | (show andThen _ _ _ _; refine goN ?_)
      | (show inBlock _ _ _ _; refine goB ?_)
      | (show retPost _ _ _ _ _; refine finG ?_))
    rfl
end Go.Proofs.YtfnckkfbnnbmkaaGreat
