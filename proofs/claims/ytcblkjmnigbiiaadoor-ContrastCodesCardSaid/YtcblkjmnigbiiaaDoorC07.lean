/-
  Contracts of functions of the program, walked with the abstract layer. Conditions: as each says.
-/
import Derived.Test.YtcblkjmnigbiiaaDoorC06
set_option linter.unusedVariables false
set_option linter.unusedSimpArgs false
namespace Go.Proofs.YtcblkjmnigbiiaaDoor
open Go.Vw
attribute [local irreducible] awp awpL awpR

theorem matZ_ok (c n : Int) (h : codingOk c n = true) : ∀ l ∈ matZ c n n.toNat, l.length < 100000000000 ∧ ∀ r ∈ l, okR 100000000000 r := by
  obtain ⟨b1, b2, b3, b4⟩ := bounds_of h
  have hcol : 0 ≤ colsZ c n ∧ colsZ c n ≤ 32 := by unfold colsZ; split <;> omega
  intro l hl
  simp only [matZ, List.mem_map, List.mem_range] at hl
  obtain ⟨i, hi, rfl⟩ := hl
  refine ⟨by rw [rowZ_length]; omega, fun r hr => ?_⟩
  simp only [rowZ, List.mem_map, List.mem_range] at hr
  obtain ⟨j, hj, rfl⟩ := hr
  have := entryZ_bound (c := c) (n := n) (i := i) (j := j) (by omega) (by omega) (by omega) (by omega)
  exact ⟨Nat.lt_of_le_of_lt (len_small (by omega)) (by decide), (by show ([] : List Nat).length < _; decide)⟩

theorem codes_true (c n : Int) : Ret Tryd.prog 3 [.int .i64 c, .int .i64 n] (· = .bool true) := by
  have h1 := contrast_Matrix c n
  have h2 := ref11_Matrix c n
  unfold matD at h1 h2
  cases h : codingOk c n with
  | true =>
    obtain ⟨b1, b2, b3, b4⟩ := bounds_of h
    simp only [h, if_true] at h1 h2
    have hs := ref03_SameLists (matZ c n n.toNat) (matZ c n n.toNat) (by rw [matZ_length]; omega) (by rw [matZ_length]; omega) (matZ_ok c n h) (matZ_ok c n h)
    rw [decide_eq_true rfl] at hs
    refine ret_of_awp tab Tryd.func3 rfl rfl (Nat.le_of_ble_eq_true rfl) (fun w0 F0 => ?_)
    repeat' (first
      | (show awpL _ _ _ _ _; first | refine goL ?_ | refine cl 7 tt rfl rfl rfl (hr := h1) (k := ?_) | refine cl 8 tt rfl rfl rfl (hr := h2) (k := ?_) | refine cl 9 tt rfl rfl rfl (hr := awake_true) (k := ?_) | refine cl 10 tt rfl rfl rfl (hr := hs) (k := ?_) | (refine gdLD rfl rfl (fun _ => ?_) (fun _ => ?_) <;> try (exfalso; omega)) | (refine gdLN rfl rfl (fun _ => ?_) (fun _ => ?_) <;> try (exfalso; omega)) | refine gdL rfl rfl (fun _ => ?_) (fun _ => ?_))
      | (show awp _ _ _ _; first | refine goA ?_ | (refine awp_condD rfl (fun _ => ?_) (fun _ => ?_) <;> try (exfalso; omega)) | (refine awp_condN rfl (fun _ => ?_) (fun _ => ?_) <;> try (exfalso; omega)) | refine awp_cond rfl (fun _ => ?_) (fun _ => ?_))
      | (show andThen _ _ _ _; first | refine goN ?_)
      | (show inBlock _ _ _ _; first | refine goB ?_)
      | (show awpR _ _ _ _ _ _; first | refine goR ?_ | refine clR 7 tt rfl rfl rfl (hr := h1) (k := ?_) | refine clR 8 tt rfl rfl rfl (hr := h2) (k := ?_) | refine clR 9 tt rfl rfl rfl (hr := awake_true) (k := ?_) | refine clR 10 tt rfl rfl rfl (hr := hs) (k := ?_) | (refine gdRD rfl rfl (fun _ => ?_) (fun _ => ?_) <;> try (exfalso; omega)) | (refine gdRN rfl rfl (fun _ => ?_) (fun _ => ?_) <;> try (exfalso; omega)) | refine gdR rfl rfl (fun _ => ?_) (fun _ => ?_))
      | (show retPost _ _ _ _ _; first | refine finF true rfl rfl sc ?_ | refine finF false rfl rfl sc ?_ | refine finN rfl rfl sc ?_ | refine finL true rfl rfl sc rfl (LeR.cons rfl leL LeR.nil) ?_ | refine finE true rfl rfl sc ?_ | refine finE false rfl rfl sc ?_))
    rfl
  | false =>
    simp only [h, Bool.false_eq_true, if_false] at h1 h2
    have hs := ref03_SameLists [] [] (by decide) (by decide) (by simp) (by simp)
    rw [decide_eq_true rfl] at hs
    refine ret_of_awp tab Tryd.func3 rfl rfl (Nat.le_of_ble_eq_true rfl) (fun w0 F0 => ?_)
    repeat' (first
      | (show awpL _ _ _ _ _; first | refine goL ?_ | refine cl 7 tt rfl rfl rfl (hr := h1) (k := ?_) | refine cl 8 tt rfl rfl rfl (hr := h2) (k := ?_) | refine cl 9 tt rfl rfl rfl (hr := awake_true) (k := ?_) | refine cl 10 tt rfl rfl rfl (hr := hs) (k := ?_) | (refine gdLD rfl rfl (fun _ => ?_) (fun _ => ?_) <;> try (exfalso; omega)) | (refine gdLN rfl rfl (fun _ => ?_) (fun _ => ?_) <;> try (exfalso; omega)) | refine gdL rfl rfl (fun _ => ?_) (fun _ => ?_))
      | (show awp _ _ _ _; first | refine goA ?_ | (refine awp_condD rfl (fun _ => ?_) (fun _ => ?_) <;> try (exfalso; omega)) | (refine awp_condN rfl (fun _ => ?_) (fun _ => ?_) <;> try (exfalso; omega)) | refine awp_cond rfl (fun _ => ?_) (fun _ => ?_))
      | (show andThen _ _ _ _; first | refine goN ?_)
      | (show inBlock _ _ _ _; first | refine goB ?_)
      | (show awpR _ _ _ _ _ _; first | refine goR ?_ | refine clR 7 tt rfl rfl rfl (hr := h1) (k := ?_) | refine clR 8 tt rfl rfl rfl (hr := h2) (k := ?_) | refine clR 9 tt rfl rfl rfl (hr := awake_true) (k := ?_) | refine clR 10 tt rfl rfl rfl (hr := hs) (k := ?_) | (refine gdRD rfl rfl (fun _ => ?_) (fun _ => ?_) <;> try (exfalso; omega)) | (refine gdRN rfl rfl (fun _ => ?_) (fun _ => ?_) <;> try (exfalso; omega)) | refine gdR rfl rfl (fun _ => ?_) (fun _ => ?_))
      | (show retPost _ _ _ _ _; first | refine finF true rfl rfl sc ?_ | refine finF false rfl rfl sc ?_ | refine finN rfl rfl sc ?_ | refine finL true rfl rfl sc rfl (LeR.cons rfl leL LeR.nil) ?_ | refine finE true rfl rfl sc ?_ | refine finE false rfl rfl sc ?_))
    rfl
end Go.Proofs.YtcblkjmnigbiiaaDoor
