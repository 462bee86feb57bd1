/-
  A statement of the seat: what its contract is, and the claim. Conditions: as each says.
-/
import Derived.Test.YtfnckkfbnnbmkaaGreatA11
set_option linter.unusedVariables false
set_option linter.unusedSimpArgs false
set_option maxHeartbeats 16000000
namespace Go.Proofs.YtfnckkfbnnbmkaaGreat
open Go.Vw
attribute [local irreducible] awp awpL awpR

def badL (l : List Rat) (bad : List Int) : Nat → List Rat
  | 0 => l
  | i + 1 => (badL l bad i).set i (numQ (bad.getD i 0) * 1000)
theorem badL_len (l : List Rat) (bad : List Int) : ∀ i, (badL l bad i).length = l.length
  | 0 => rfl
  | i + 1 => by rw [badL, List.length_set, badL_len l bad i]
theorem badL_drop (l : List Rat) (bad : List Int) (m : Nat) : ∀ i, i ≤ m → (badL l bad i).drop m = l.drop m
  | 0, _ => rfl
  | i + 1, h => by rw [badL, List.drop_set_of_lt (by omega), badL_drop l bad m i (by omega)]
theorem badL_ok {l : List Rat} (bad : List Int) (hl : ∀ q ∈ l, okQ 10 q) : ∀ i, ∀ q ∈ badL l bad i, okQ 100 q
  | 0, q, hq => (hl q hq).mono (by decide)
  | i + 1, q, hq => by
    rw [badL] at hq
    rcases mem_set_or hq with rfl | hq
    · have k : okQ 10 ((1000 : Int) : Rat) := ok_intW (by decide)
      exact ((ok_numQ _).mul k).mono (by decide)
    · exact badL_ok bad hl i q hq
theorem trim_okW {l : List Rat} {g : Nat} (hl : ∀ q ∈ l, okQ 1000 q) (hn : l.length ≤ 12) (h0 : 0 < l.length) (hg : g ≤ (l.length - 1) / 2) : okQ 100000 (trimQ l g) := by
  have hk : (trimR l g).length = l.length - g - g := by unfold trimR; rw [List.length_take, List.length_drop, srt_len]; omega
  have h1 := sumQ_ok (l := trimR l g) (k := 1000) (by unfold trimR; exact takeQ_ok (dropQ_ok (srt_ok hl) g) _)
  have kn : okQ 10 (((trimR l g).length : Int) : Rat) := ok_intW (by omega)
  exact (h1.div kn (len_ne (by omega))).mono (by omega)
theorem resists_true (raw bad : List Int) (count g : Int) (hl : raw.length ≤ 9223372036854775807) (hx : I64 raw) (hl2 : bad.length ≤ 9223372036854775807) (hx2 : I64 bad) (a1 : -9223372036854775808 ≤ count) (a2 : count < 9223372036854775808) (b1 : -9223372036854775808 ≤ g) (b2 : g < 9223372036854775808) : Ret Tryz.prog 4 [i64s raw, i64s bad, .int .i64 count, .int .i64 g] (· = .bool true) := by
  have aw := law16_awake
  have nu : Ret Tryz.prog 12 [i64s raw, .int .i64 9] (· = qsD ((raw.take 9).map numQ)) := made_Numbers raw 9 hl hx (by decide)
  have kl := numbers_ok raw 9
  have hlen : ((raw.take 9).map numQ).length ≤ 9 := by simp; omega
  generalize (raw.take 9).map numQ = l at *
  by_cases h0 : l.length < 3
  · refine ret_of_awp tab Tryz.func4 rfl rfl (Nat.le_of_ble_eq_true rfl) (fun w0 F0 => ?_)
    repeat' (first
      | (show awpL _ _ _ _ _; first | refine goL ?_ | refine cl 12 tt rfl rfl rfl (hr := nu) (k := ?_) | refine cl 13 tt rfl rfl rfl (hr := aw) (k := ?_) | (refine gdLG ?_ ?_ <;> intro _ <;> try (exfalso; omega)))
      | (show awp _ _ _ _; first | refine goA ?_ | refine rg 14 44 ?_ | (refine cdG ?_ ?_ <;> intro _ <;> try (exfalso; omega)))
      | (show andThen _ _ _ _; refine goN ?_)
      | (show inBlock _ _ _ _; refine goB ?_)
      | (show awpR _ _ _ _ _ _ _; first | refine goR ?_ | refine clR 12 tt rfl rfl rfl (hr := nu) (k := ?_) | refine clR 13 tt rfl rfl rfl (hr := aw) (k := ?_) | (refine gdRG ?_ ?_ <;> intro _ <;> try (exfalso; omega)))
      | (show retPost _ _ _ _ _; refine finG ?_))
    rfl
  · have md := made_ModW g (((l.length : Int) - 1) / 2 + 1) b1 b2 (by omega) (by omega)
    have mb := modN g (show 0 < (l.length - 1) / 2 + 1 by omega)
    rw [show (((l.length - 1) / 2 + 1 : Nat) : Int) = ((l.length : Int) - 1) / 2 + 1 by omega] at mb
    generalize g % (((l.length : Int) - 1) / 2 + 1) = k at *
    obtain ⟨k, rfl⟩ : ∃ m : Nat, k = m := ⟨k.toNat, by omega⟩
    have md2 := made_ModW count ((k : Int) + 1) a1 a2 (by omega) (by omega)
    have mb2 := modN count (show 0 < k + 1 by omega)
    rw [show ((k + 1 : Nat) : Int) = (k : Int) + 1 by omega] at mb2
    generalize count % ((k : Int) + 1) = m at *
    obtain ⟨m, rfl⟩ : ∃ n : Nat, m = n := ⟨m.toNat, by omega⟩
    have hdl : (l.drop m).length = l.length - m := List.length_drop ..
    have kd := dropQ_ok kl m
    have so := ref16_SortQ2 (l.drop m) (by omega) (okQ_mono kd (by decide))
    have hw := within_srt (l := l.drop m) (by omega)
    have hsl := srt_len (l.drop m)
    have kg := srt_ok kd
    have kb := badL_ok bad kl m
    have bl := badL_len l bad m
    have bd := badL_drop l bad m m (Nat.le_refl _)
    have hrm : Within ((srt (l.drop m)).getD 0 0) ((srt (l.drop m)).getD ((l.drop m).length - 1) 0) ((badL l bad m).drop m) := by rw [bd]; exact hw
    obtain ⟨⟨r1, r2⟩, r3, r4⟩ := resist_mid hrm (show m ≤ k by omega) (by rw [bl]; omega) (by omega)
    have mi := order_MiddleQ (badL l bad m) (by omega) (by omega) (okQ_mono kb (by decide))
    have tr := order_TrimmedQ (badL l bad m) k (by omega) (by omega) (okQ_mono kb (by decide)) (by omega)
    have o1 := midQ_ok kb (by omega)
    have o2 := trim_okW (g := k) (okQ_mono kb (show 100 ≤ 1000 by decide)) (by omega) (by omega) (by omega)
    have o3 := getD_ok kg (show 0 < (srt (l.drop m)).length by omega)
    have o4 := getD_ok kg (show (l.drop m).length - 1 < (srt (l.drop m)).length by omega)
    have lt1 := ref03_LessQ (midQ (badL l bad m)) ((srt (l.drop m)).getD 0 0) (o1.mono (by decide)) (o3.mono (by decide))
    have lt2 := ref03_LessQ ((srt (l.drop m)).getD ((l.drop m).length - 1) 0) (midQ (badL l bad m)) (o4.mono (by decide)) (o1.mono (by decide))
    have lt3 := ref03_LessQ (trimQ (badL l bad m) k) ((srt (l.drop m)).getD 0 0) (o2.mono (by decide)) (o3.mono (by decide))
    have lt4 := ref03_LessQ ((srt (l.drop m)).getD ((l.drop m).length - 1) 0) (trimQ (badL l bad m) k) (o4.mono (by decide)) (o2.mono (by decide))
    rw [decide_eq_false (Rat.not_lt.2 r1)] at lt1
    rw [decide_eq_false (Rat.not_lt.2 r2)] at lt2
    rw [decide_eq_false (Rat.not_lt.2 r3)] at lt3
    rw [decide_eq_false (Rat.not_lt.2 r4)] at lt4
    have ix : (((srt (l.drop m)).length : Int) - 1).toNat = (l.drop m).length - 1 := by omega
    rw [← ix] at lt2 lt4
    clear r1 r2 r3 r4 hrm bd hw kd kg o1 o2 o3 o4 ix
    have hin : Ret Tryz.prog 19 [.int .i64 1000] (· = qD ((1000 : Int) : Rat)) := ref03_FromIntW 1000 (by decide) (by decide)
    refine ret_of_awp tab Tryz.func4 rfl rfl (Nat.le_of_ble_eq_true rfl) (fun w0 F0 => ?_)
    repeat' (first
      | (show awpL _ _ _ _ _; first | refine goL ?_ | refine cl 12 tt rfl rfl rfl (hr := nu) (k := ?_) | refine cl 24 tt rfl rfl rfl (hr := md) (k := ?_) | refine cl 24 tt rfl rfl rfl (hr := md2) (k := ?_) | (refine gdLG ?_ ?_ <;> intro _ <;> try (exfalso; omega)))
      | (show awp _ _ _ _; first | refine goA ?_ | refine rg 14 44 ?_ | (refine cdG ?_ ?_ <;> intro _ <;> try (exfalso; omega)))
      | (show andThen _ _ _ _; refine goN ?_)
      | (show inBlock _ _ _ _; refine goB ?_)
      | (show awpR _ _ _ _ _ _ _; first | refine goR ?_ | refine clR 12 tt rfl rfl rfl (hr := nu) (k := ?_) | refine clR 24 tt rfl rfl rfl (hr := md) (k := ?_) | refine clR 24 tt rfl rfl rfl (hr := md2) (k := ?_) | (refine gdRG ?_ ?_ <;> intro _ <;> try (exfalso; omega)))
      | (show retPost _ _ _ _ _; refine finG ?_))
    refine awp_rename [(1, .d (i64s bad)), (3, .d (.int .i64 k)), (9, .d (qsD l)), (10, .d (.int .i64 m)), (11, .own 36 0 l.length 30 3), (12, .d (.int .i64 0))] [(36, qB l)] [(36, 500)] ⟨rfl, rfl, rfl, rfl, rfl, rfl, rfl⟩ ⟨rfl, trivial⟩ ?_
    refine awp_loop1 (fun (i : Nat) => ([(1, .d (i64s bad)), (3, .d (.int .i64 k)), (9, .d (qsD l)), (10, .d (.int .i64 m)), (11, qO l.length), (12, .d (.int .i64 i))], [(500, qB (badL l bad i))])) (fun i => i ≤ m) (fun i => m - i) 0 (by omega) ⟨rfl, rfl, rfl, rfl, rfl, rfl, rfl⟩ ⟨rfl, trivial⟩ (fun i hi => ?_)
    have hbl := badL_len l bad i
    by_cases h3 : i < m
    · have ha := made_At bad i hl2 (by omega)
      have hg := hx2.getD i
      have nb := made_Number (bad.getD i 0) hg.1 hg.2
      have k9 := ok_numQ (bad.getD i 0)
      have kk : okQ 10 ((1000 : Int) : Rat) := ok_intW (by decide)
      have mu := ref03_MulQ (numQ (bad.getD i 0)) ((1000 : Int) : Rat) (k9.mono (by decide)) (kk.mono (by decide))
      have hst : badL l bad (i + 1) = (badL l bad i).set i (numQ (bad.getD i 0) * ((1000 : Int) : Rat)) := rfl
      clear k9 kk so mi tr lt1 lt2 lt3 lt4 kb
      generalize numQ (bad.getD i 0) * ((1000 : Int) : Rat) = y at *
      generalize numQ (bad.getD i 0) = x at *
      generalize ((1000 : Int) : Rat) = th at *
      generalize bad.getD i 0 = z at *
      generalize badL l bad i = B at *
      repeat' (first
        | (show awpL _ _ _ _ _; first | refine goL ?_ | refine cl 25 tt rfl rfl rfl (hr := ha) (k := ?_) | refine cl 23 tt rfl rfl rfl (hr := nb) (k := ?_) | refine cl 19 tt rfl rfl rfl (hr := hin) (k := ?_) | refine cl 17 tt rfl rfl rfl (hr := mu) (k := ?_) | (refine gdLG ?_ ?_ <;> intro _ <;> try (exfalso; omega)))
        | (show awp _ _ _ _; first | refine goA ?_ | refine rg 14 44 ?_ | (refine cdG ?_ ?_ <;> intro _ <;> try (exfalso; omega)))
        | (show andThen _ _ _ _; refine goN ?_)
        | (show inBlock _ _ _ _; refine goB ?_)
        | (show awpR _ _ _ _ _ _ _; first | refine goR ?_ | refine clR 25 tt rfl rfl rfl (hr := ha) (k := ?_) | refine clR 23 tt rfl rfl rfl (hr := nb) (k := ?_) | refine clR 19 tt rfl rfl rfl (hr := hin) (k := ?_) | refine clR 17 tt rfl rfl rfl (hr := mu) (k := ?_) | (refine gdRG ?_ ?_ <;> intro _ <;> try (exfalso; omega)))
        | (show retPost _ _ _ _ _; refine finG ?_))
      exact ⟨i + 1, by omega, by omega, ⟨rfl, rfl, rfl, rfl, rfl, iv (by omega), rfl⟩, blkEq hst.symm, trivial⟩
    · obtain rfl : i = m := by omega
      have hcut : cut 0 l.length (badL l bad i) = badL l bad i := by rw [← hbl]; exact cut_all _
      have mi2 : Ret Tryz.prog 27 [.sl 3 qC 0 (cut 0 l.length (badL l bad i))] (· = .tup [qD (midQ (badL l bad i)), .int .i64 0]) := by rw [hcut]; exact mi
      have tr2 : Ret Tryz.prog 28 [.sl 3 qC 0 (cut 0 l.length (badL l bad i)), .int .i64 k] (· = .tup [qD (trimQ (badL l bad i) k), .int .i64 0]) := by rw [hcut]; exact tr
      clear kb mi tr hcut hin
      generalize midQ (badL l bad i) = x at *
      generalize trimQ (badL l bad i) k = y at *
      generalize badL l bad i = B at *
      generalize srt (l.drop i) = s at *
      repeat' (first
        | (show awpL _ _ _ _ _; first | refine goL ?_ | refine cl 26 tt rfl rfl rfl (hr := so) (k := ?_) | refine cl 27 tt rfl rfl rfl (hr := mi2) (k := ?_) | refine cl 28 tt rfl rfl rfl (hr := tr2) (k := ?_) | refine cl 13 tt rfl rfl rfl (hr := aw) (k := ?_) | refine cl 22 tt rfl rfl rfl (hr := lt1) (k := ?_) | refine cl 22 tt rfl rfl rfl (hr := lt2) (k := ?_) | refine cl 22 tt rfl rfl rfl (hr := lt3) (k := ?_) | refine cl 22 tt rfl rfl rfl (hr := lt4) (k := ?_) | (refine gdLG ?_ ?_ <;> intro _ <;> try (exfalso; omega)))
        | (show awp _ _ _ _; first | refine goA ?_ | refine rg 14 44 ?_ | (refine cdG ?_ ?_ <;> intro _ <;> try (exfalso; omega)))
        | (show andThen _ _ _ _; refine goN ?_)
        | (show inBlock _ _ _ _; refine goB ?_)
        | (show awpR _ _ _ _ _ _ _; first | refine goR ?_ | refine clR 26 tt rfl rfl rfl (hr := so) (k := ?_) | refine clR 27 tt rfl rfl rfl (hr := mi2) (k := ?_) | refine clR 28 tt rfl rfl rfl (hr := tr2) (k := ?_) | refine clR 13 tt rfl rfl rfl (hr := aw) (k := ?_) | refine clR 22 tt rfl rfl rfl (hr := lt1) (k := ?_) | refine clR 22 tt rfl rfl rfl (hr := lt2) (k := ?_) | refine clR 22 tt rfl rfl rfl (hr := lt3) (k := ?_) | refine clR 22 tt rfl rfl rfl (hr := lt4) (k := ?_) | (refine gdRG ?_ ?_ <;> intro _ <;> try (exfalso; omega)))
        | (show retPost _ _ _ _ _; refine finG ?_))
      all_goals first | rfl | (rename_i hc; exact absurd rfl hc)
end Go.Proofs.YtfnckkfbnnbmkaaGreat
