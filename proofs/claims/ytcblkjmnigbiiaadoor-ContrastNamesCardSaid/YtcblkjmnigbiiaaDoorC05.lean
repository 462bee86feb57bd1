/-
  Contracts of functions of the program, walked with the abstract layer. Conditions: as each says.
-/
import Derived.Test.YtcblkjmnigbiiaaDoorC01
import Derived.Test.YtcblkjmnigbiiaaDoorC04
set_option linter.unusedVariables false
set_option linter.unusedSimpArgs false
namespace Go.Proofs.YtcblkjmnigbiiaaDoor
open Go.Vw
attribute [local irreducible] awp awpL awpR

theorem entries_at (c n : Int) (h1 : 1 ≤ c) (h2 : c ≤ 4) (h3 : 1 ≤ n) (h4 : n ≤ 32) : ∃ g i, Instr.findNow (.int .i64) (.int .i64 c) ents.toList 0 = some (some (i, .func (.func g) #[] #[])) ∧ ∀ row col : Int, 0 ≤ row → row < 1000 → 0 ≤ col → col < colsZ c n → Ret Tryd.prog g [.int .i64 n, .int .i64 row, .int .i64 col] (· = .int .i64 (entryZ c n row col)) := by
  have hcol : colsZ c n ≤ 32 := by unfold colsZ; split <;> omega
  have hc : c = 1 ∨ c = 2 ∨ c = 3 ∨ c = 4 := by omega
  rcases hc with rfl | rfl | rfl | rfl
  · exact ⟨45, 1, rfl, fun row col a b d e => contrast_e2 n row col a b d (by omega) (by omega) (by omega)⟩
  · refine ⟨46, 2, rfl, fun row col a b d e => contrast_e3 n row col a b d ?_ (by omega) (by omega)⟩
    simpa [colsZ] using e
  · exact ⟨47, 3, rfl, fun row col a b d e => contrast_e4 n row col a b d (by omega) (by omega) (by omega)⟩
  · exact ⟨43, 0, rfl, fun row col a b d e => contrast_e1 n row col a b d (by omega) (by omega) (by omega)⟩

theorem contrast_Matrix (c n : Int) : Ret Tryd.prog 7 [.int .i64 c, .int .i64 n] (· = matD c n) := by
  have hp := contrast_inRange c n
  unfold matD
  cases h : codingOk c n with
  | false =>
    rw [h] at hp
    simp only [Bool.false_eq_true, if_false]
    refine ret_of_awp tab Tryd.func7 rfl rfl (Nat.le_of_ble_eq_true rfl) (fun w0 F0 => ?_)
    repeat' (first
      | (show awpL _ _ _ _ _; first | refine goL ?_ | refine cl 22 tt rfl rfl rfl (hr := hp) (k := ?_) | (refine gdLD rfl rfl (fun _ => ?_) (fun _ => ?_) <;> try (exfalso; omega)) | (refine gdLN rfl rfl (fun _ => ?_) (fun _ => ?_) <;> try (exfalso; omega)) | refine gdL rfl rfl (fun _ => ?_) (fun _ => ?_))
      | (show awp _ _ _ _; first | refine goA ?_ | refine awp_reg 12 11 mixed (by kernel_rfl) ?_ | (refine awp_condD rfl (fun _ => ?_) (fun _ => ?_) <;> try (exfalso; omega)) | (refine awp_condN rfl (fun _ => ?_) (fun _ => ?_) <;> try (exfalso; omega)) | refine awp_cond rfl (fun _ => ?_) (fun _ => ?_))
      | (show andThen _ _ _ _; first | refine goN ?_)
      | (show inBlock _ _ _ _; first | refine goB ?_)
      | (show awpR _ _ _ _ _ _; first | refine goR ?_ | refine clR 22 tt rfl rfl rfl (hr := hp) (k := ?_) | (refine gdRD rfl rfl (fun _ => ?_) (fun _ => ?_) <;> try (exfalso; omega)) | (refine gdRN rfl rfl (fun _ => ?_) (fun _ => ?_) <;> try (exfalso; omega)) | refine gdR rfl rfl (fun _ => ?_) (fun _ => ?_))
      | (show retPost _ _ _ _ _; first | refine finF true rfl rfl sc ?_ | refine finF false rfl rfl sc ?_ | refine finN rfl rfl sc ?_ | refine finL true rfl rfl sc rfl (LeR.cons rfl leL LeR.nil) ?_ | refine finT true rfl rfl sc ?_ | refine finT false rfl rfl sc ?_ | refine finE true rfl rfl sc ?_ | refine finE false rfl rfl sc ?_))
    exact leT
  | true =>
    rw [h] at hp
    obtain ⟨b1, b2, b3, b4⟩ := bounds_of h
    have hcol : 0 ≤ colsZ c n ∧ colsZ c n ≤ 32 := by unfold colsZ; split <;> omega
    have hcl := contrast_columns c n (by omega) (by omega)
    obtain ⟨g, ix, hf, hg⟩ := entries_at c n b1 b2 b3 b4
    simp only [if_true]
    obtain ⟨N, hN⟩ : ∃ N : Nat, n = N := ⟨n.toNat, by omega⟩
    obtain ⟨M, hM⟩ : ∃ M : Nat, colsZ c n = M := ⟨(colsZ c n).toNat, by omega⟩
    rw [hM] at hcl
    refine ret_of_awp tab Tryd.func7 rfl rfl (Nat.le_of_ble_eq_true rfl) (fun w0 F0 => ?_)
    repeat' (first
      | (show awpL _ _ _ _ _; first | refine goL ?_ | refine cl 22 tt rfl rfl rfl (hr := hp) (k := ?_) | (refine gdLD rfl rfl (fun _ => ?_) (fun _ => ?_) <;> try (exfalso; omega)) | (refine gdLN rfl rfl (fun _ => ?_) (fun _ => ?_) <;> try (exfalso; omega)) | refine gdL rfl rfl (fun _ => ?_) (fun _ => ?_))
      | (show awp _ _ _ _; first | refine goA ?_ | refine awp_reg 12 11 mixed (by kernel_rfl) ?_ | (refine awp_condD rfl (fun _ => ?_) (fun _ => ?_) <;> try (exfalso; omega)) | (refine awp_condN rfl (fun _ => ?_) (fun _ => ?_) <;> try (exfalso; omega)) | refine awp_cond rfl (fun _ => ?_) (fun _ => ?_))
      | (show andThen _ _ _ _; first | refine goN ?_)
      | (show inBlock _ _ _ _; first | refine goB ?_)
      | (show awpR _ _ _ _ _ _; first | refine goR ?_ | refine clR 22 tt rfl rfl rfl (hr := hp) (k := ?_) | (refine gdRD rfl rfl (fun _ => ?_) (fun _ => ?_) <;> try (exfalso; omega)) | (refine gdRN rfl rfl (fun _ => ?_) (fun _ => ?_) <;> try (exfalso; omega)) | refine gdR rfl rfl (fun _ => ?_) (fun _ => ?_))
      | (show retPost _ _ _ _ _; first | refine finF true rfl rfl sc ?_ | refine finF false rfl rfl sc ?_ | refine finN rfl rfl sc ?_ | refine finL true rfl rfl sc rfl (LeR.cons rfl leL LeR.nil) ?_ | refine finE true rfl rfl sc ?_ | refine finE false rfl rfl sc ?_))
    refine awpL_lookup entries_lays rfl rfl rfl rfl rfl (Nat.le_of_ble_eq_true rfl) rfl rfl rfl (Nat.le_of_ble_eq_true rfl) (by decide) rfl rfl rfl rfl (Nat.le_of_ble_eq_true rfl) und52 und3 hf ?_
    subst hN
    repeat' (first
      | (show awpL _ _ _ _ _; first | refine goL ?_ | (refine gdLD rfl rfl (fun _ => ?_) (fun _ => ?_) <;> try (exfalso; omega)) | (refine gdLN rfl rfl (fun _ => ?_) (fun _ => ?_) <;> try (exfalso; omega)) | refine gdL rfl rfl (fun _ => ?_) (fun _ => ?_))
      | (show awp _ _ _ _; first | refine goA ?_ | refine awp_reg 12 11 mixed (by kernel_rfl) ?_ | (refine awp_condD rfl (fun _ => ?_) (fun _ => ?_) <;> try (exfalso; omega)) | (refine awp_condN rfl (fun _ => ?_) (fun _ => ?_) <;> try (exfalso; omega)) | refine awp_cond rfl (fun _ => ?_) (fun _ => ?_))
      | (show andThen _ _ _ _; first | refine goN ?_)
      | (show inBlock _ _ _ _; first | refine goB ?_)
      | (show awpR _ _ _ _ _ _; first | refine goR ?_ | (refine gdRD rfl rfl (fun _ => ?_) (fun _ => ?_) <;> try (exfalso; omega)) | (refine gdRN rfl rfl (fun _ => ?_) (fun _ => ?_) <;> try (exfalso; omega)) | refine gdR rfl rfl (fun _ => ?_) (fun _ => ?_))
      | (show retPost _ _ _ _ _; first | refine finF true rfl rfl sc ?_ | refine finF false rfl rfl sc ?_ | refine finN rfl rfl sc ?_ | refine finL true rfl rfl sc rfl (LeR.cons rfl leL LeR.nil) ?_ | refine finE true rfl rfl sc ?_ | refine finE false rfl rfl sc ?_))
    refine stepMake (mm := true) (en := eR) (z := []) tt rfl rfl rfl rfl rfl rfl rfl rfl rfl rfl rfl rfl leL sc sc ?_
    repeat' (first
      | (show awpL _ _ _ _ _; first | refine goL ?_ | (refine gdLD rfl rfl (fun _ => ?_) (fun _ => ?_) <;> try (exfalso; omega)) | (refine gdLN rfl rfl (fun _ => ?_) (fun _ => ?_) <;> try (exfalso; omega)) | refine gdL rfl rfl (fun _ => ?_) (fun _ => ?_))
      | (show awp _ _ _ _; first | refine goA ?_ | refine awp_reg 12 11 mixed (by kernel_rfl) ?_ | (refine awp_condD rfl (fun _ => ?_) (fun _ => ?_) <;> try (exfalso; omega)) | (refine awp_condN rfl (fun _ => ?_) (fun _ => ?_) <;> try (exfalso; omega)) | refine awp_cond rfl (fun _ => ?_) (fun _ => ?_))
      | (show andThen _ _ _ _; first | refine goN ?_)
      | (show inBlock _ _ _ _; first | refine goB ?_)
      | (show awpR _ _ _ _ _ _; first | refine goR ?_ | (refine gdRD rfl rfl (fun _ => ?_) (fun _ => ?_) <;> try (exfalso; omega)) | (refine gdRN rfl rfl (fun _ => ?_) (fun _ => ?_) <;> try (exfalso; omega)) | refine gdR rfl rfl (fun _ => ?_) (fun _ => ?_))
      | (show retPost _ _ _ _ _; first | refine finF true rfl rfl sc ?_ | refine finF false rfl rfl sc ?_ | refine finN rfl rfl sc ?_ | refine finL true rfl rfl sc rfl (LeR.cons rfl leL LeR.nil) ?_ | refine finE true rfl rfl sc ?_ | refine finE false rfl rfl sc ?_))
    refine awp_loop2 (fun (i : Nat) (L : List (List R3)) => ([(0, .d (.int .i64 c)), (1, .d (.int .i64 N)), (6, .fn g []), (7, .own 18 0 N 33 1), (20, .d (.int .i64 N)), (21, .d (.int .i64 i))], [(18, .data 33 1 eR [] L)])) (fun i L => i ≤ N ∧ L.length = N ∧ L.take i = matZ c N i) (fun i L => N - i) 0 (List.replicate N []) ⟨by omega, by simp, rfl⟩ ⟨rfl, rfl, rfl, rfl, rfl, rfl, rfl⟩ ⟨rfl, trivial⟩ (fun i L hi => ?_)
    obtain ⟨i1, i2, i3⟩ := hi
    by_cases hin : i < N
    · repeat' (first
        | (show awpL _ _ _ _ _; first | refine goL ?_ | refine cl 24 tt rfl rfl rfl (hr := hcl) (k := ?_) | (refine gdLD rfl rfl (fun _ => ?_) (fun _ => ?_) <;> try (exfalso; omega)) | (refine gdLN rfl rfl (fun _ => ?_) (fun _ => ?_) <;> try (exfalso; omega)) | refine gdL rfl rfl (fun _ => ?_) (fun _ => ?_))
        | (show awp _ _ _ _; first | refine goA ?_ | refine awp_reg 12 11 mixed (by kernel_rfl) ?_ | (refine awp_condD rfl (fun _ => ?_) (fun _ => ?_) <;> try (exfalso; omega)) | (refine awp_condN rfl (fun _ => ?_) (fun _ => ?_) <;> try (exfalso; omega)) | refine awp_cond rfl (fun _ => ?_) (fun _ => ?_))
        | (show andThen _ _ _ _; first | refine goN ?_)
        | (show inBlock _ _ _ _; first | refine goB ?_)
        | (show awpR _ _ _ _ _ _; first | refine goR ?_ | refine clR 24 tt rfl rfl rfl (hr := hcl) (k := ?_) | (refine gdRD rfl rfl (fun _ => ?_) (fun _ => ?_) <;> try (exfalso; omega)) | (refine gdRN rfl rfl (fun _ => ?_) (fun _ => ?_) <;> try (exfalso; omega)) | refine gdR rfl rfl (fun _ => ?_) (fun _ => ?_))
        | (show retPost _ _ _ _ _; first | refine finF true rfl rfl sc ?_ | refine finF false rfl rfl sc ?_ | refine finN rfl rfl sc ?_ | refine finL true rfl rfl sc rfl (LeR.cons rfl leL LeR.nil) ?_ | refine finE true rfl rfl sc ?_ | refine finE false rfl rfl sc ?_))
      refine stepMake (mm := true) (en := rC) (z := r0) tt rfl rfl rfl rfl rfl rfl rfl rfl rfl rfl rfl rfl leL sc sc ?_
      repeat' (first
        | (show awpL _ _ _ _ _; first | refine goL ?_ | (refine gdLD rfl rfl (fun _ => ?_) (fun _ => ?_) <;> try (exfalso; omega)) | (refine gdLN rfl rfl (fun _ => ?_) (fun _ => ?_) <;> try (exfalso; omega)) | refine gdL rfl rfl (fun _ => ?_) (fun _ => ?_))
        | (show awp _ _ _ _; first | refine goA ?_ | refine awp_reg 12 11 mixed (by kernel_rfl) ?_ | (refine awp_condD rfl (fun _ => ?_) (fun _ => ?_) <;> try (exfalso; omega)) | (refine awp_condN rfl (fun _ => ?_) (fun _ => ?_) <;> try (exfalso; omega)) | refine awp_cond rfl (fun _ => ?_) (fun _ => ?_))
        | (show andThen _ _ _ _; first | refine goN ?_)
        | (show inBlock _ _ _ _; first | refine goB ?_)
        | (show awpR _ _ _ _ _ _; first | refine goR ?_ | (refine gdRD rfl rfl (fun _ => ?_) (fun _ => ?_) <;> try (exfalso; omega)) | (refine gdRN rfl rfl (fun _ => ?_) (fun _ => ?_) <;> try (exfalso; omega)) | refine gdR rfl rfl (fun _ => ?_) (fun _ => ?_))
        | (show retPost _ _ _ _ _; first | refine finF true rfl rfl sc ?_ | refine finF false rfl rfl sc ?_ | refine finN rfl rfl sc ?_ | refine finL true rfl rfl sc rfl (LeR.cons rfl leL LeR.nil) ?_ | refine finE true rfl rfl sc ?_ | refine finE false rfl rfl sc ?_))
      refine awp_loop2 (fun (j : Nat) (R : List R3) => ([(0, .d (.int .i64 c)), (1, .d (.int .i64 N)), (6, .fn g []), (7, .own 18 0 N 33 1), (8, .d (.int .i64 i)), (20, .d (.int .i64 N)), (21, .d (.int .i64 i)), (35, .d (.int .i64 M)), (36, .d (.int .i64 j))], [(18, .hole 33 1 eR [] L i (.own 29 0 M 44 3)), (29, .data 44 3 rC r0 R)])) (fun j R => j ≤ M ∧ R.length = M ∧ R.take j = rowZ c N i j) (fun j R => M - j) 0 (List.replicate M r0) ⟨by omega, by simp, rfl⟩ ⟨rfl, rfl, rfl, rfl, rfl, rfl, rfl, rfl, rfl, rfl⟩ ⟨rfl, rfl, trivial⟩ (fun j R hj => ?_)
      obtain ⟨j1, j2, j3⟩ := hj
      by_cases hjc : j < M
      · have he := entryZ_bound (c := c) (n := N) (i := i) (j := j) (by omega) (by omega) (by omega) (by omega)
        repeat' (first
          | (show awpL _ _ _ _ _; first | refine goL ?_ | refine cl g (Nat.beq_refl g) rfl rfl rfl (hr := hg _ _ (by omega) (by omega) (by omega) (by omega)) (k := ?_) | refine cl 25 tt rfl rfl rfl (hr := rational_FromInt _ (by omega) (by omega)) (k := ?_) | (refine gdLD rfl rfl (fun _ => ?_) (fun _ => ?_) <;> try (exfalso; omega)) | (refine gdLN rfl rfl (fun _ => ?_) (fun _ => ?_) <;> try (exfalso; omega)) | refine gdL rfl rfl (fun _ => ?_) (fun _ => ?_))
          | (show awp _ _ _ _; first | refine goA ?_ | refine awp_reg 12 11 mixed (by kernel_rfl) ?_ | (refine awp_condD rfl (fun _ => ?_) (fun _ => ?_) <;> try (exfalso; omega)) | (refine awp_condN rfl (fun _ => ?_) (fun _ => ?_) <;> try (exfalso; omega)) | refine awp_cond rfl (fun _ => ?_) (fun _ => ?_))
          | (show andThen _ _ _ _; first | refine goN ?_)
          | (show inBlock _ _ _ _; first | refine goB ?_)
          | (show awpR _ _ _ _ _ _; first | refine goR ?_ | refine clR g (Nat.beq_refl g) rfl rfl rfl (hr := hg _ _ (by omega) (by omega) (by omega) (by omega)) (k := ?_) | refine clR 25 tt rfl rfl rfl (hr := rational_FromInt _ (by omega) (by omega)) (k := ?_) | (refine gdRD rfl rfl (fun _ => ?_) (fun _ => ?_) <;> try (exfalso; omega)) | (refine gdRN rfl rfl (fun _ => ?_) (fun _ => ?_) <;> try (exfalso; omega)) | refine gdR rfl rfl (fun _ => ?_) (fun _ => ?_))
          | (show retPost _ _ _ _ _; first | refine finF true rfl rfl sc ?_ | refine finF false rfl rfl sc ?_ | refine finN rfl rfl sc ?_ | refine finL true rfl rfl sc rfl (LeR.cons rfl leL LeR.nil) ?_ | refine finE true rfl rfl sc ?_ | refine finE false rfl rfl sc ?_))
        refine ⟨j + 1, R.set j (zR (entryZ c N i j)), ⟨by omega, by simp; omega, ?_⟩, by omega, ⟨rfl, rfl, rfl, rfl, rfl, rfl, rfl, rfl, iv (by omega), rfl⟩, rfl, rfl, trivial⟩
        rw [rowZ_succ, ← j3, List.take_add_one, List.take_set_of_le (by omega)]
        simp [j2, hjc]
      · have hcut : cut 0 M R = R := by rw [← j2, cut_all]
        have hjM : j = M := by omega
        subst hjM
        rw [List.take_of_length_le (by omega)] at j3
        refine awp_frz 29 rfl ?_
        refine awp_fill 18 R rfl (by show LeL [.sl 3 rC r0 (cut 0 _ R)] _; rw [hcut]; exact LeL.refl _) (by omega) ?_
        repeat' (first
          | (show awpL _ _ _ _ _; first | refine goL ?_ | (refine gdLD rfl rfl (fun _ => ?_) (fun _ => ?_) <;> try (exfalso; omega)) | (refine gdLN rfl rfl (fun _ => ?_) (fun _ => ?_) <;> try (exfalso; omega)) | refine gdL rfl rfl (fun _ => ?_) (fun _ => ?_))
          | (show awp _ _ _ _; first | refine goA ?_ | refine awp_reg 12 11 mixed (by kernel_rfl) ?_ | (refine awp_condD rfl (fun _ => ?_) (fun _ => ?_) <;> try (exfalso; omega)) | (refine awp_condN rfl (fun _ => ?_) (fun _ => ?_) <;> try (exfalso; omega)) | refine awp_cond rfl (fun _ => ?_) (fun _ => ?_))
          | (show andThen _ _ _ _; first | refine goN ?_)
          | (show inBlock _ _ _ _; first | refine goB ?_)
          | (show awpR _ _ _ _ _ _; first | refine goR ?_ | (refine gdRD rfl rfl (fun _ => ?_) (fun _ => ?_) <;> try (exfalso; omega)) | (refine gdRN rfl rfl (fun _ => ?_) (fun _ => ?_) <;> try (exfalso; omega)) | refine gdR rfl rfl (fun _ => ?_) (fun _ => ?_))
          | (show retPost _ _ _ _ _; first | refine finF true rfl rfl sc ?_ | refine finF false rfl rfl sc ?_ | refine finN rfl rfl sc ?_ | refine finL true rfl rfl sc rfl (LeR.cons rfl leL LeR.nil) ?_ | refine finE true rfl rfl sc ?_ | refine finE false rfl rfl sc ?_))
        refine ⟨i + 1, L.set i R, ⟨by omega, by simp; omega, ?_⟩, by omega, ⟨rfl, rfl, rfl, rfl, rfl, iv (by omega), rfl⟩, rfl, trivial⟩
        rw [matZ_succ, ← i3, List.take_add_one, List.take_set_of_le (by omega), hM, Int.toNat_natCast, ← j3]
        simp [i2, hin]
    · have hiN : i = N := by omega
      subst hiN
      rw [List.take_of_length_le (by omega)] at i3
      repeat' (first
        | (show awpL _ _ _ _ _; first | refine goL ?_ | (refine gdLD rfl rfl (fun _ => ?_) (fun _ => ?_) <;> try (exfalso; omega)) | (refine gdLN rfl rfl (fun _ => ?_) (fun _ => ?_) <;> try (exfalso; omega)) | refine gdL rfl rfl (fun _ => ?_) (fun _ => ?_))
        | (show awp _ _ _ _; first | refine goA ?_ | refine awp_reg 12 11 mixed (by kernel_rfl) ?_ | (refine awp_condD rfl (fun _ => ?_) (fun _ => ?_) <;> try (exfalso; omega)) | (refine awp_condN rfl (fun _ => ?_) (fun _ => ?_) <;> try (exfalso; omega)) | refine awp_cond rfl (fun _ => ?_) (fun _ => ?_))
        | (show andThen _ _ _ _; first | refine goN ?_)
        | (show inBlock _ _ _ _; first | refine goB ?_)
        | (show awpR _ _ _ _ _ _; first | refine goR ?_ | (refine gdRD rfl rfl (fun _ => ?_) (fun _ => ?_) <;> try (exfalso; omega)) | (refine gdRN rfl rfl (fun _ => ?_) (fun _ => ?_) <;> try (exfalso; omega)) | refine gdR rfl rfl (fun _ => ?_) (fun _ => ?_))
        | (show retPost _ _ _ _ _; first | refine finF true rfl rfl sc ?_ | refine finF false rfl rfl sc ?_ | refine finN rfl rfl sc ?_ | refine finL true rfl rfl sc rfl (LeR.cons rfl leL LeR.nil) ?_ | refine finE true rfl rfl sc ?_ | refine finE false rfl rfl sc ?_))
      rw [i3]
      rfl
end Go.Proofs.YtcblkjmnigbiiaaDoor
