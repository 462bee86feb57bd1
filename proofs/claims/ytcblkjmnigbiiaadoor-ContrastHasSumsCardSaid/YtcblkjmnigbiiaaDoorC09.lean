/-
  Contracts of functions of the program, walked with the abstract layer. Conditions: as each says.
-/
import Derived.Test.YtcblkjmnigbiiaaDoorC08
set_option linter.unusedVariables false
set_option linter.unusedSimpArgs false
namespace Go.Proofs.YtcblkjmnigbiiaaDoor
open Go.Vw
attribute [local irreducible] awp awpL awpR

theorem mat_row {c n : Int} {N : Nat} {i : Nat} (hi : i < N) : (matZ c n N).getD i [] = rowZ c n i (colsZ c n).toNat := by
  simp [matZ, List.getD, hi]
theorem row_at {c n : Int} {i k j : Nat} (h : j < k) : (rowZ c n i k).getD j r0 = zR (entryZ c n i j) := by
  simp [rowZ, List.getD, h]
theorem codingOk_yes {c n : Int} (h1 : 1 ≤ c) (h2 : c ≤ 4) (h3 : 1 ≤ n) (h4 : n ≤ 32) : codingOk c n = true := by
  unfold codingOk; simp [h1, h2, h3, h4]
theorem matD_of {c n : Int} (h1 : 1 ≤ c) (h2 : c ≤ 4) (h3 : 1 ≤ n) (h4 : n ≤ 32) : matD c n = .tup [rssD (matZ c n n.toNat), .int .i64 0] := by
  unfold matD; rw [if_pos (codingOk_yes h1 h2 h3 h4)]

set_option maxHeartbeats 4000000 in
theorem sums_true (lv : Nat) (hlv : lv < 256) (wh : Int) (hw : -9223372036854775808 ≤ wh) (hw' : wh < 9223372036854775808) : Ret Tryd.prog 6 [.int .u8 lv, .int .i64 wh] (· = .bool true) := by
  obtain ⟨N, hN⟩ : ∃ N : Nat, N = 1 + lv % 32 := ⟨_, rfl⟩
  have m2 := contrast_Matrix 2 N
  have m3 := contrast_Matrix 3 N
  have m4 := contrast_Matrix 4 N
  rw [matD_of (by decide) (by decide) (by omega) (by omega), Int.toNat_natCast] at m2 m3 m4
  have hmod := made_Mod wh (max ((N : Int) - 1) 1) hw hw' (by omega) (by omega)
  have hj1 := Int.emod_nonneg wh (show max ((N : Int) - 1) 1 ≠ 0 by omega)
  have hj2 := Int.emod_lt_of_pos wh (show 0 < max ((N : Int) - 1) 1 by omega)
  generalize wh % (max ((N : Int) - 1) 1) = J at *
  obtain ⟨j, rfl⟩ : ∃ j : Nat, J = j := ⟨J.toNat, by omega⟩
  have l2 := matZ_length 2 N N
  have l3 := matZ_length 3 N N
  have l4 := matZ_length 4 N N
  refine ret_of_awp tab Tryd.func6 rfl rfl (Nat.le_of_ble_eq_true rfl) (fun w0 F0 => ?_)
  repeat' (first
    | (show awpL _ _ _ _ _; first | refine goL ?_ | refine cl 7 tt rfl rfl rfl (hr := m2) (k := ?_) | refine cl 7 tt rfl rfl rfl (hr := m3) (k := ?_) | refine cl 7 tt rfl rfl rfl (hr := m4) (k := ?_) | refine cl 16 tt rfl rfl rfl (hr := hmod) (k := ?_) | (refine gdLD rfl rfl (fun _ => ?_) (fun _ => ?_) <;> try (exfalso; omega)) | (refine gdLN rfl rfl (fun _ => ?_) (fun _ => ?_) <;> try (exfalso; omega)) | refine gdL rfl rfl (fun _ => ?_) (fun _ => ?_))
    | (show awp _ _ _ _; first | refine goA ?_ | refine awp_reg 18 8 mixed (by kernel_rfl) ?_ | refine awp_reg 19 2 mixed (by kernel_rfl) ?_ | refine awp_reg 22 17 mixed (by kernel_rfl) ?_ | refine awp_reg 30 16 mixed (by kernel_rfl) ?_ | (refine awp_condD rfl (fun _ => ?_) (fun _ => ?_) <;> try (exfalso; omega)) | (refine awp_condN rfl (fun _ => ?_) (fun _ => ?_) <;> try (exfalso; omega)) | refine awp_cond rfl (fun _ => ?_) (fun _ => ?_))
    | (show andThen _ _ _ _; first | refine goN ?_)
    | (show inBlock _ _ _ _; first | refine goB ?_)
    | (show awpR _ _ _ _ _ _; first | refine goR ?_ | refine clR 7 tt rfl rfl rfl (hr := m2) (k := ?_) | refine clR 7 tt rfl rfl rfl (hr := m3) (k := ?_) | refine clR 7 tt rfl rfl rfl (hr := m4) (k := ?_) | refine clR 16 tt rfl rfl rfl (hr := hmod) (k := ?_) | (refine gdRD rfl rfl (fun _ => ?_) (fun _ => ?_) <;> try (exfalso; omega)) | (refine gdRN rfl rfl (fun _ => ?_) (fun _ => ?_) <;> try (exfalso; omega)) | refine gdR rfl rfl (fun _ => ?_) (fun _ => ?_))
    | (show retPost _ _ _ _ _; first | refine finF true rfl rfl sc ?_ | refine finF false rfl rfl sc ?_ | refine finN rfl rfl sc ?_ | refine finL true rfl rfl sc rfl (LeR.cons rfl leL LeR.nil) ?_ | refine finE true rfl rfl sc ?_ | refine finE false rfl rfl sc ?_))
  let bx := fun (z : Int) => Blk.box 44 ((rC (zR z)).map V.d)
  have le0 : LeL [.bool false, .nils, .nils] (rC (zR 0)) := by rw [zR_zero]; exact leL
  refine awp_rebox 13 (rC (zR 0)) rfl rfl le0 ?_
  refine awp_rebox 14 (rC (zR 0)) rfl rfl le0 ?_
  refine awp_rebox 15 (rC (zR 0)) rfl rfl le0 ?_
  refine awp_loop2 (fun (i : Nat) (c : Int) => ([(5, .d (.int .i64 N)), (6, .d (rssD (matZ 2 N N))), (8, .d (rssD (matZ 3 N N))), (10, .d (rssD (matZ 4 N N))), (12, .d (.int .i64 j)), (13, .ptr 13 0), (14, .ptr 14 0), (15, .ptr 15 0), (16, .d (.int .i64 i))], [(13, .box 44 ((rC (zR (if 1 < N then colSum 2 N i j else 0))).map V.d)), (14, .box 44 ((rC (zR (if 1 < N then colSum 3 N i j else 0))).map V.d)), (15, .box 44 ((rC (zR c)).map V.d))])) (fun i c => i ≤ N) (fun i c => N - i) 0 0 (by omega) ⟨iv (by omega), rfl, rfl, rfl, rfl, rfl, rfl, rfl, rfl, rfl⟩ ⟨by simp only [colSum, ite_self]; rfl, by simp only [colSum, ite_self]; rfl, rfl, trivial⟩ (fun i c hi => ?_)
  by_cases hin : i < N
  · have e2 : ((matZ 2 (N : Int) N).getD i []).length = N - 1 := by rw [mat_row hin, rowZ_length]; simp [colsZ]
    have e3 : ((matZ 3 (N : Int) N).getD i []).length = N - 1 := by rw [mat_row hin, rowZ_length]; simp [colsZ]
    have e4 : ((matZ 4 (N : Int) N).getD i []).length = N := by rw [mat_row hin, rowZ_length]; simp [colsZ]
    repeat' (first
      | (show awpL _ _ _ _ _; first | refine goL ?_ | (refine gdLD rfl rfl (fun _ => ?_) (fun _ => ?_) <;> try (exfalso; omega)) | (refine gdLN rfl rfl (fun _ => ?_) (fun _ => ?_) <;> try (exfalso; omega)) | refine gdL rfl rfl (fun _ => ?_) (fun _ => ?_))
      | (show awp _ _ _ _; first | refine goA ?_ | refine awp_reg 18 8 mixed (by kernel_rfl) ?_ | refine awp_reg 19 2 mixed (by kernel_rfl) ?_ | refine awp_reg 22 17 mixed (by kernel_rfl) ?_ | refine awp_reg 30 16 mixed (by kernel_rfl) ?_ | (refine awp_condD rfl (fun _ => ?_) (fun _ => ?_) <;> try (exfalso; omega)) | (refine awp_condN rfl (fun _ => ?_) (fun _ => ?_) <;> try (exfalso; omega)) | refine awp_cond rfl (fun _ => ?_) (fun _ => ?_))
      | (show andThen _ _ _ _; first | refine goN ?_)
      | (show inBlock _ _ _ _; first | refine goB ?_)
      | (show awpR _ _ _ _ _ _; first | refine goR ?_ | (refine gdRD rfl rfl (fun _ => ?_) (fun _ => ?_) <;> try (exfalso; omega)) | (refine gdRN rfl rfl (fun _ => ?_) (fun _ => ?_) <;> try (exfalso; omega)) | refine gdR rfl rfl (fun _ => ?_) (fun _ => ?_))
      | (show retPost _ _ _ _ _; first | refine finF true rfl rfl sc ?_ | refine finF false rfl rfl sc ?_ | refine finN rfl rfl sc ?_ | refine finL true rfl rfl sc rfl (LeR.cons rfl leL LeR.nil) ?_ | refine finE true rfl rfl sc ?_ | refine finE false rfl rfl sc ?_))
    refine awp_rebox 15 (rC (zR 0)) rfl rfl le0 ?_
    refine awp_loop1 (fun (k : Nat) => ([(5, .d (.int .i64 N)), (6, .d (rssD (matZ 2 N N))), (8, .d (rssD (matZ 3 N N))), (10, .d (rssD (matZ 4 N N))), (12, .d (.int .i64 j)), (13, .ptr 13 0), (14, .ptr 14 0), (15, .ptr 15 0), (16, .d (.int .i64 i)), (17, .d (.int .i64 k))], [(13, .box 44 ((rC (zR (if 1 < N then colSum 2 N i j else 0))).map V.d)), (14, .box 44 ((rC (zR (if 1 < N then colSum 3 N i j else 0))).map V.d)), (15, .box 44 ((rC (zR (rowSum 4 N i k))).map V.d))])) (fun k => k ≤ N) (fun k => N - k) 0 (by omega) ⟨rfl, rfl, rfl, rfl, rfl, rfl, rfl, rfl, rfl, rfl, rfl⟩ ⟨rfl, rfl, rfl, trivial⟩ (fun k hk => ?_)
    have b4 : (rowSum 4 N i k).natAbs < 4294967296 := by rw [rowSum4]; split <;> decide
    by_cases hkn : k < N
    · have f4 : ((matZ 4 (N : Int) N).getD i []).getD k r0 = zR (entryZ 4 N i k) := by rw [mat_row hin, row_at]; simp [colsZ]; exact hkn
      have eb := entryZ_bound (c := 4) (n := N) (i := i) (j := k) (by omega) (by omega) (by omega) (by omega)
      have ha : Ret Tryd.prog 17 [rD (zR (rowSum 4 N i k)), rD (((matZ 4 (N : Int) N).getD i []).getD k r0)] (· = rD (zR (rowSum 4 N i (k + 1)))) := by
        rw [f4]; exact ref03_AddI _ _ b4 (by omega)
      repeat' (first
        | (show awpL _ _ _ _ _; first | refine goL ?_ | refine cl 17 tt rfl rfl rfl (hr := ha) (k := ?_) | (refine gdLD rfl rfl (fun _ => ?_) (fun _ => ?_) <;> try (exfalso; omega)) | (refine gdLN rfl rfl (fun _ => ?_) (fun _ => ?_) <;> try (exfalso; omega)) | refine gdL rfl rfl (fun _ => ?_) (fun _ => ?_))
        | (show awp _ _ _ _; first | refine goA ?_ | refine awp_reg 18 8 mixed (by kernel_rfl) ?_ | refine awp_reg 19 2 mixed (by kernel_rfl) ?_ | refine awp_reg 22 17 mixed (by kernel_rfl) ?_ | refine awp_reg 30 16 mixed (by kernel_rfl) ?_ | (refine awp_condD rfl (fun _ => ?_) (fun _ => ?_) <;> try (exfalso; omega)) | (refine awp_condN rfl (fun _ => ?_) (fun _ => ?_) <;> try (exfalso; omega)) | refine awp_cond rfl (fun _ => ?_) (fun _ => ?_))
        | (show andThen _ _ _ _; first | refine goN ?_)
        | (show inBlock _ _ _ _; first | refine goB ?_)
        | (show awpR _ _ _ _ _ _; first | refine goR ?_ | refine clR 17 tt rfl rfl rfl (hr := ha) (k := ?_) | (refine gdRD rfl rfl (fun _ => ?_) (fun _ => ?_) <;> try (exfalso; omega)) | (refine gdRN rfl rfl (fun _ => ?_) (fun _ => ?_) <;> try (exfalso; omega)) | refine gdR rfl rfl (fun _ => ?_) (fun _ => ?_))
        | (show retPost _ _ _ _ _; first | refine finF true rfl rfl sc ?_ | refine finF false rfl rfl sc ?_ | refine finN rfl rfl sc ?_ | refine finL true rfl rfl sc rfl (LeR.cons rfl leL LeR.nil) ?_ | refine finE true rfl rfl sc ?_ | refine finE false rfl rfl sc ?_))
      exact ⟨k + 1, by omega, by omega, ⟨rfl, rfl, rfl, rfl, rfl, rfl, rfl, rfl, rfl, iv (by omega), rfl⟩, rfl, rfl, rfl, trivial⟩
    · have hkN : k = N := by omega
      subst hkN
      have hs := ref03_SameI (rowSum 4 k i k) 1 b4 (by decide)
      rw [decide_eq_true (show rowSum 4 k i k = 1 by rw [rowSum4, if_pos (by omega)])] at hs
      by_cases hn1 : 1 < k
      · have g2 : ((matZ 2 (k : Int) k).getD i []).getD j r0 = zR (entryZ 2 k i j) := by rw [mat_row hin, row_at]; simp [colsZ]; omega
        have g3 : ((matZ 3 (k : Int) k).getD i []).getD j r0 = zR (entryZ 3 k i j) := by rw [mat_row hin, row_at]; simp [colsZ]; omega
        have eb2 := entryZ_bound (c := 2) (n := k) (i := i) (j := j) (by omega) (by omega) (by omega) (by omega)
        have eb3 := entryZ_bound (c := 3) (n := k) (i := i) (j := j) (by omega) (by omega) (by omega) (by omega)
        have s2 := colSum2 k j i (by omega) (by omega) (by omega)
        have s3 := colSum3 k j i (by omega)
        have q2 : (if 1 < k then colSum 2 k i j else 0).natAbs < 4294967296 := by rw [if_pos hn1, s2]; (repeat' split) <;> decide
        have q3 : (if 1 < k then colSum 3 k i j else 0).natAbs < 4294967296 := by rw [if_pos hn1, s3]; split <;> omega
        have h2 : Ret Tryd.prog 17 [rD (zR (if 1 < k then colSum 2 k i j else 0)), rD (((matZ 2 (k : Int) k).getD i []).getD j r0)] (· = rD (zR (if 1 < k then colSum 2 k (i + 1) j else 0))) := by
          have := ref03_AddI (if 1 < k then colSum 2 k i j else 0) (entryZ 2 k i j) q2 (by omega)
          rw [← g2] at this
          simp only [if_pos hn1] at this ⊢
          exact this
        have h3 : Ret Tryd.prog 17 [rD (zR (if 1 < k then colSum 3 k i j else 0)), rD (((matZ 3 (k : Int) k).getD i []).getD j r0)] (· = rD (zR (if 1 < k then colSum 3 k (i + 1) j else 0))) := by
          have := ref03_AddI (if 1 < k then colSum 3 k i j else 0) (entryZ 3 k i j) q3 (by omega)
          rw [← g3] at this
          simp only [if_pos hn1] at this ⊢
          exact this
        repeat' (first
          | (show awpL _ _ _ _ _; first | refine goL ?_ | refine cl 19 tt rfl rfl rfl (hr := ref03_FromInt 1 (by decide) (by decide)) (k := ?_) | refine cl 18 tt rfl rfl rfl (hr := hs) (k := ?_) | refine cl 17 tt rfl rfl rfl (hr := h2) (k := ?_) | refine cl 17 tt rfl rfl rfl (hr := h3) (k := ?_) | (refine gdLD rfl rfl (fun _ => ?_) (fun _ => ?_) <;> try (exfalso; omega)) | (refine gdLN rfl rfl (fun _ => ?_) (fun _ => ?_) <;> try (exfalso; omega)) | refine gdL rfl rfl (fun _ => ?_) (fun _ => ?_))
          | (show awp _ _ _ _; first | refine goA ?_ | refine awp_reg 18 8 mixed (by kernel_rfl) ?_ | refine awp_reg 19 2 mixed (by kernel_rfl) ?_ | refine awp_reg 22 17 mixed (by kernel_rfl) ?_ | refine awp_reg 30 16 mixed (by kernel_rfl) ?_ | (refine awp_condD rfl (fun _ => ?_) (fun _ => ?_) <;> try (exfalso; omega)) | (refine awp_condN rfl (fun _ => ?_) (fun _ => ?_) <;> try (exfalso; omega)) | refine awp_cond rfl (fun _ => ?_) (fun _ => ?_))
          | (show andThen _ _ _ _; first | refine goN ?_)
          | (show inBlock _ _ _ _; first | refine goB ?_)
          | (show awpR _ _ _ _ _ _; first | refine goR ?_ | refine clR 19 tt rfl rfl rfl (hr := ref03_FromInt 1 (by decide) (by decide)) (k := ?_) | refine clR 18 tt rfl rfl rfl (hr := hs) (k := ?_) | refine clR 17 tt rfl rfl rfl (hr := h2) (k := ?_) | refine clR 17 tt rfl rfl rfl (hr := h3) (k := ?_) | (refine gdRD rfl rfl (fun _ => ?_) (fun _ => ?_) <;> try (exfalso; omega)) | (refine gdRN rfl rfl (fun _ => ?_) (fun _ => ?_) <;> try (exfalso; omega)) | refine gdR rfl rfl (fun _ => ?_) (fun _ => ?_))
          | (show retPost _ _ _ _ _; first | refine finF true rfl rfl sc ?_ | refine finF false rfl rfl sc ?_ | refine finN rfl rfl sc ?_ | refine finL true rfl rfl sc rfl (LeR.cons rfl leL LeR.nil) ?_ | refine finE true rfl rfl sc ?_ | refine finE false rfl rfl sc ?_))
        exact ⟨i + 1, rowSum 4 k i k, by omega, by omega, ⟨rfl, rfl, rfl, rfl, rfl, rfl, rfl, rfl, iv (by omega), rfl⟩, rfl, rfl, rfl, trivial⟩
      · repeat' (first
          | (show awpL _ _ _ _ _; first | refine goL ?_ | refine cl 19 tt rfl rfl rfl (hr := ref03_FromInt 1 (by decide) (by decide)) (k := ?_) | refine cl 18 tt rfl rfl rfl (hr := hs) (k := ?_) | (refine gdLD rfl rfl (fun _ => ?_) (fun _ => ?_) <;> try (exfalso; omega)) | (refine gdLN rfl rfl (fun _ => ?_) (fun _ => ?_) <;> try (exfalso; omega)) | refine gdL rfl rfl (fun _ => ?_) (fun _ => ?_))
          | (show awp _ _ _ _; first | refine goA ?_ | refine awp_reg 18 8 mixed (by kernel_rfl) ?_ | refine awp_reg 19 2 mixed (by kernel_rfl) ?_ | refine awp_reg 22 17 mixed (by kernel_rfl) ?_ | refine awp_reg 30 16 mixed (by kernel_rfl) ?_ | (refine awp_condD rfl (fun _ => ?_) (fun _ => ?_) <;> try (exfalso; omega)) | (refine awp_condN rfl (fun _ => ?_) (fun _ => ?_) <;> try (exfalso; omega)) | refine awp_cond rfl (fun _ => ?_) (fun _ => ?_))
          | (show andThen _ _ _ _; first | refine goN ?_)
          | (show inBlock _ _ _ _; first | refine goB ?_)
          | (show awpR _ _ _ _ _ _; first | refine goR ?_ | refine clR 19 tt rfl rfl rfl (hr := ref03_FromInt 1 (by decide) (by decide)) (k := ?_) | refine clR 18 tt rfl rfl rfl (hr := hs) (k := ?_) | (refine gdRD rfl rfl (fun _ => ?_) (fun _ => ?_) <;> try (exfalso; omega)) | (refine gdRN rfl rfl (fun _ => ?_) (fun _ => ?_) <;> try (exfalso; omega)) | refine gdR rfl rfl (fun _ => ?_) (fun _ => ?_))
          | (show retPost _ _ _ _ _; first | refine finF true rfl rfl sc ?_ | refine finF false rfl rfl sc ?_ | refine finN rfl rfl sc ?_ | refine finL true rfl rfl sc rfl (LeR.cons rfl leL LeR.nil) ?_ | refine finE true rfl rfl sc ?_ | refine finE false rfl rfl sc ?_))
        refine ⟨i + 1, rowSum 4 k i k, by omega, by omega, ⟨rfl, rfl, rfl, rfl, rfl, rfl, rfl, rfl, iv (by omega), rfl⟩, ?_, ?_, rfl, trivial⟩
        · rw [if_neg hn1]; simp only [if_neg hn1]; rfl
        · rw [if_neg hn1]; simp only [if_neg hn1]; rfl
  · have hiN : i = N := by omega
    have S2 : (if 1 < N then colSum 2 N i j else 0) = 0 := by
      split
      · rw [colSum2 _ _ _ (by omega) (by omega) (by omega), if_pos (by omega), if_pos (by omega)]; rfl
      · rfl
    have S3 : (if 1 < N then colSum 3 N i j else 0) = 0 := by
      split
      · rw [colSum3 _ _ _ (by omega), if_neg (by omega)]
      · rfl
    rw [S2, S3]
    repeat' (first
      | (show awpL _ _ _ _ _; first | refine goL ?_ | (refine gdLD rfl rfl (fun _ => ?_) (fun _ => ?_) <;> try (exfalso; omega)) | (refine gdLN rfl rfl (fun _ => ?_) (fun _ => ?_) <;> try (exfalso; omega)) | refine gdL rfl rfl (fun _ => ?_) (fun _ => ?_))
      | (show awp _ _ _ _; first | refine goA ?_ | refine awp_reg 18 8 mixed (by kernel_rfl) ?_ | refine awp_reg 19 2 mixed (by kernel_rfl) ?_ | refine awp_reg 22 17 mixed (by kernel_rfl) ?_ | refine awp_reg 30 16 mixed (by kernel_rfl) ?_ | (refine awp_condD rfl (fun _ => ?_) (fun _ => ?_) <;> try (exfalso; omega)) | (refine awp_condN rfl (fun _ => ?_) (fun _ => ?_) <;> try (exfalso; omega)) | refine awp_cond rfl (fun _ => ?_) (fun _ => ?_))
      | (show andThen _ _ _ _; first | refine goN ?_)
      | (show inBlock _ _ _ _; first | refine goB ?_)
      | (show awpR _ _ _ _ _ _; first | refine goR ?_ | (refine gdRD rfl rfl (fun _ => ?_) (fun _ => ?_) <;> try (exfalso; omega)) | (refine gdRN rfl rfl (fun _ => ?_) (fun _ => ?_) <;> try (exfalso; omega)) | refine gdR rfl rfl (fun _ => ?_) (fun _ => ?_))
      | (show retPost _ _ _ _ _; first | refine finF true rfl rfl sc ?_ | refine finF false rfl rfl sc ?_ | refine finN rfl rfl sc ?_ | refine finL true rfl rfl sc rfl (LeR.cons rfl leL LeR.nil) ?_ | refine finE true rfl rfl sc ?_ | refine finE false rfl rfl sc ?_))
    refine awp_loop1 (fun (q : Nat) => ([(5, .d (.int .i64 N)), (8, .d (rssD (matZ 3 N N))), (12, .d (.int .i64 j)), (13, .ptr 13 0), (14, .ptr 14 0), (18, .d (.int .i64 q))], [(13, .box 44 ((rC (zR 0)).map V.d)), (14, .box 44 ((rC (zR 0)).map V.d))])) (fun q => q ≤ j) (fun q => j - q) 0 (by omega) ⟨rfl, rfl, rfl, rfl, rfl, rfl, rfl⟩ ⟨rfl, rfl, trivial⟩ (fun q hq => ?_)
    by_cases hqj : q < j
    · repeat' (first
        | (show awpL _ _ _ _ _; first | refine goL ?_ | (refine gdLD rfl rfl (fun _ => ?_) (fun _ => ?_) <;> try (exfalso; omega)) | (refine gdLN rfl rfl (fun _ => ?_) (fun _ => ?_) <;> try (exfalso; omega)) | refine gdL rfl rfl (fun _ => ?_) (fun _ => ?_))
        | (show awp _ _ _ _; first | refine goA ?_ | refine awp_reg 18 8 mixed (by kernel_rfl) ?_ | refine awp_reg 19 2 mixed (by kernel_rfl) ?_ | refine awp_reg 22 17 mixed (by kernel_rfl) ?_ | refine awp_reg 30 16 mixed (by kernel_rfl) ?_ | (refine awp_condD rfl (fun _ => ?_) (fun _ => ?_) <;> try (exfalso; omega)) | (refine awp_condN rfl (fun _ => ?_) (fun _ => ?_) <;> try (exfalso; omega)) | refine awp_cond rfl (fun _ => ?_) (fun _ => ?_))
        | (show andThen _ _ _ _; first | refine goN ?_)
        | (show inBlock _ _ _ _; first | refine goB ?_)
        | (show awpR _ _ _ _ _ _; first | refine goR ?_ | (refine gdRD rfl rfl (fun _ => ?_) (fun _ => ?_) <;> try (exfalso; omega)) | (refine gdRN rfl rfl (fun _ => ?_) (fun _ => ?_) <;> try (exfalso; omega)) | refine gdR rfl rfl (fun _ => ?_) (fun _ => ?_))
        | (show retPost _ _ _ _ _; first | refine finF true rfl rfl sc ?_ | refine finF false rfl rfl sc ?_ | refine finN rfl rfl sc ?_ | refine finL true rfl rfl sc rfl (LeR.cons rfl leL LeR.nil) ?_ | refine finE true rfl rfl sc ?_ | refine finE false rfl rfl sc ?_))
      refine awp_rebox 19 (rC (zR 0)) rfl rfl le0 ?_
      refine awp_loop1 (fun (r : Nat) => ([(5, .d (.int .i64 N)), (8, .d (rssD (matZ 3 N N))), (12, .d (.int .i64 j)), (13, .ptr 13 0), (14, .ptr 14 0), (18, .d (.int .i64 q)), (19, .ptr 19 0), (20, .d (.int .i64 r))], [(13, .box 44 ((rC (zR 0)).map V.d)), (14, .box 44 ((rC (zR 0)).map V.d)), (19, .box 44 ((rC (zR (dotSum 3 N r j q))).map V.d))])) (fun r => r ≤ N) (fun r => N - r) 0 (by omega) ⟨rfl, rfl, rfl, rfl, rfl, rfl, rfl, rfl, rfl⟩ ⟨rfl, rfl, rfl, trivial⟩ (fun r hr => ?_)
      have d3 := dotSum3 N j q r (by omega) (by omega)
      have bd : (dotSum 3 N r j q).natAbs < 4294967296 := by rw [d3]; split <;> omega
      by_cases hrN : r < N
      · have l5 : ((matZ 3 (N : Int) N).getD r []).length = N - 1 := by rw [mat_row hrN, rowZ_length]; simp [colsZ]
        have g1 : ((matZ 3 (N : Int) N).getD r []).getD j r0 = zR (entryZ 3 N r j) := by rw [mat_row hrN, row_at]; simp [colsZ]; omega
        have g2 : ((matZ 3 (N : Int) N).getD r []).getD q r0 = zR (entryZ 3 N r q) := by rw [mat_row hrN, row_at]; simp [colsZ]; omega
        have eb1 := entryZ_bound (c := 3) (n := N) (i := r) (j := j) (by omega) (by omega) (by omega) (by omega)
        have eb2 := entryZ_bound (c := 3) (n := N) (i := r) (j := q) (by omega) (by omega) (by omega) (by omega)
        have hm : Ret Tryd.prog 20 [rD (((matZ 3 (N : Int) N).getD r []).getD j r0), rD (((matZ 3 (N : Int) N).getD r []).getD q r0)] (· = rD (zR (entryZ 3 N r j * entryZ 3 N r q))) := by
          rw [g1, g2]; exact ref03_MulI _ _ (by omega) (by omega)
        have pb : (entryZ 3 N r j * entryZ 3 N r q).natAbs < 4294967296 := by
          rw [Int.natAbs_mul]
          exact Nat.lt_of_le_of_lt (Nat.mul_le_mul (show (entryZ 3 N r j).natAbs ≤ 1000 by omega) (show (entryZ 3 N r q).natAbs ≤ 1000 by omega)) (by decide)
        have ha : Ret Tryd.prog 17 [rD (zR (dotSum 3 N r j q)), rD (zR (entryZ 3 N r j * entryZ 3 N r q))] (· = rD (zR (dotSum 3 N (r + 1) j q))) := ref03_AddI _ _ bd pb
        repeat' (first
          | (show awpL _ _ _ _ _; first | refine goL ?_ | refine cl 20 tt rfl rfl rfl (hr := hm) (k := ?_) | refine cl 17 tt rfl rfl rfl (hr := ha) (k := ?_) | (refine gdLD rfl rfl (fun _ => ?_) (fun _ => ?_) <;> try (exfalso; omega)) | (refine gdLN rfl rfl (fun _ => ?_) (fun _ => ?_) <;> try (exfalso; omega)) | refine gdL rfl rfl (fun _ => ?_) (fun _ => ?_))
          | (show awp _ _ _ _; first | refine goA ?_ | refine awp_reg 18 8 mixed (by kernel_rfl) ?_ | refine awp_reg 19 2 mixed (by kernel_rfl) ?_ | refine awp_reg 22 17 mixed (by kernel_rfl) ?_ | refine awp_reg 30 16 mixed (by kernel_rfl) ?_ | (refine awp_condD rfl (fun _ => ?_) (fun _ => ?_) <;> try (exfalso; omega)) | (refine awp_condN rfl (fun _ => ?_) (fun _ => ?_) <;> try (exfalso; omega)) | refine awp_cond rfl (fun _ => ?_) (fun _ => ?_))
          | (show andThen _ _ _ _; first | refine goN ?_)
          | (show inBlock _ _ _ _; first | refine goB ?_)
          | (show awpR _ _ _ _ _ _; first | refine goR ?_ | refine clR 20 tt rfl rfl rfl (hr := hm) (k := ?_) | refine clR 17 tt rfl rfl rfl (hr := ha) (k := ?_) | (refine gdRD rfl rfl (fun _ => ?_) (fun _ => ?_) <;> try (exfalso; omega)) | (refine gdRN rfl rfl (fun _ => ?_) (fun _ => ?_) <;> try (exfalso; omega)) | refine gdR rfl rfl (fun _ => ?_) (fun _ => ?_))
          | (show retPost _ _ _ _ _; first | refine finF true rfl rfl sc ?_ | refine finF false rfl rfl sc ?_ | refine finN rfl rfl sc ?_ | refine finL true rfl rfl sc rfl (LeR.cons rfl leL LeR.nil) ?_ | refine finE true rfl rfl sc ?_ | refine finE false rfl rfl sc ?_))
        exact ⟨r + 1, by omega, by omega, ⟨rfl, rfl, rfl, rfl, rfl, rfl, rfl, iv (by omega), rfl⟩, rfl, rfl, rfl, trivial⟩
      · have hrN' : r = N := by omega
        have hz : dotSum 3 N r j q = 0 := by rw [d3, if_neg (by omega)]
        rw [hz]
        repeat' (first
          | (show awpL _ _ _ _ _; first | refine goL ?_ | refine cl 21 tt rfl rfl rfl (hr := ref03_SignI 0 (by decide)) (k := ?_) | (refine gdLD rfl rfl (fun _ => ?_) (fun _ => ?_) <;> try (exfalso; omega)) | (refine gdLN rfl rfl (fun _ => ?_) (fun _ => ?_) <;> try (exfalso; omega)) | refine gdL rfl rfl (fun _ => ?_) (fun _ => ?_))
          | (show awp _ _ _ _; first | refine goA ?_ | refine awp_reg 18 8 mixed (by kernel_rfl) ?_ | refine awp_reg 19 2 mixed (by kernel_rfl) ?_ | refine awp_reg 22 17 mixed (by kernel_rfl) ?_ | refine awp_reg 30 16 mixed (by kernel_rfl) ?_ | (refine awp_condD rfl (fun _ => ?_) (fun _ => ?_) <;> try (exfalso; omega)) | (refine awp_condN rfl (fun _ => ?_) (fun _ => ?_) <;> try (exfalso; omega)) | refine awp_cond rfl (fun _ => ?_) (fun _ => ?_))
          | (show andThen _ _ _ _; first | refine goN ?_)
          | (show inBlock _ _ _ _; first | refine goB ?_)
          | (show awpR _ _ _ _ _ _; first | refine goR ?_ | refine clR 21 tt rfl rfl rfl (hr := ref03_SignI 0 (by decide)) (k := ?_) | (refine gdRD rfl rfl (fun _ => ?_) (fun _ => ?_) <;> try (exfalso; omega)) | (refine gdRN rfl rfl (fun _ => ?_) (fun _ => ?_) <;> try (exfalso; omega)) | refine gdR rfl rfl (fun _ => ?_) (fun _ => ?_))
          | (show retPost _ _ _ _ _; first | refine finF true rfl rfl sc ?_ | refine finF false rfl rfl sc ?_ | refine finN rfl rfl sc ?_ | refine finL true rfl rfl sc rfl (LeR.cons rfl leL LeR.nil) ?_ | refine finE true rfl rfl sc ?_ | refine finE false rfl rfl sc ?_))
        exact ⟨q + 1, by omega, by omega, ⟨rfl, rfl, rfl, rfl, rfl, iv (by omega), rfl⟩, rfl, rfl, trivial⟩
    · repeat' (first
        | (show awpL _ _ _ _ _; first | refine goL ?_ | refine cl 9 tt rfl rfl rfl (hr := awake_true) (k := ?_) | refine cl 21 tt rfl rfl rfl (hr := ref03_SignI 0 (by decide)) (k := ?_) | (refine gdLD rfl rfl (fun _ => ?_) (fun _ => ?_) <;> try (exfalso; omega)) | (refine gdLN rfl rfl (fun _ => ?_) (fun _ => ?_) <;> try (exfalso; omega)) | refine gdL rfl rfl (fun _ => ?_) (fun _ => ?_))
        | (show awp _ _ _ _; first | refine goA ?_ | refine awp_reg 18 8 mixed (by kernel_rfl) ?_ | refine awp_reg 19 2 mixed (by kernel_rfl) ?_ | refine awp_reg 22 17 mixed (by kernel_rfl) ?_ | refine awp_reg 30 16 mixed (by kernel_rfl) ?_ | (refine awp_condD rfl (fun _ => ?_) (fun _ => ?_) <;> try (exfalso; omega)) | (refine awp_condN rfl (fun _ => ?_) (fun _ => ?_) <;> try (exfalso; omega)) | refine awp_cond rfl (fun _ => ?_) (fun _ => ?_))
        | (show andThen _ _ _ _; first | refine goN ?_)
        | (show inBlock _ _ _ _; first | refine goB ?_)
        | (show awpR _ _ _ _ _ _; first | refine goR ?_ | refine clR 9 tt rfl rfl rfl (hr := awake_true) (k := ?_) | refine clR 21 tt rfl rfl rfl (hr := ref03_SignI 0 (by decide)) (k := ?_) | (refine gdRD rfl rfl (fun _ => ?_) (fun _ => ?_) <;> try (exfalso; omega)) | (refine gdRN rfl rfl (fun _ => ?_) (fun _ => ?_) <;> try (exfalso; omega)) | refine gdR rfl rfl (fun _ => ?_) (fun _ => ?_))
        | (show retPost _ _ _ _ _; first | refine finF true rfl rfl sc ?_ | refine finF false rfl rfl sc ?_ | refine finN rfl rfl sc ?_ | refine finL true rfl rfl sc rfl (LeR.cons rfl leL LeR.nil) ?_ | refine finE true rfl rfl sc ?_ | refine finE false rfl rfl sc ?_))
      rfl
end Go.Proofs.YtcblkjmnigbiiaaDoor
