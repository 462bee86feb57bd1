/-
  A statement of the seat: what its contract is, and the claim. Conditions: as each says.
-/
import Derived.Test.YtjjefhbceoeibaaGreatA11
import Derived.Test.YtjjefhbceoeibaaGreatItvE
set_option linter.unusedVariables false
set_option linter.unusedSimpArgs false
set_option maxHeartbeats 4000000
namespace Go.Proofs.YtjjefhbceoeibaaGreat
open Go.Vw
attribute [local irreducible] awp awpL awpR

theorem same_I (i : I2) (h : okI 1000000 i) : Ret Tryz.prog 35 [iQ i, iQ i] (· = .bool true) := by
  have := ref04_SameI i i h h
  rw [decide_eq_true rfl] at this
  exact this
theorem same_0 : Ret Tryz.prog 35 [iD r0 r0, iD r0 r0] (· = .bool true) := by
  have := ref04_Same r0 r0 r0 r0 ⟨by decide, by decide⟩ ⟨by decide, by decide⟩ ⟨by decide, by decide⟩ ⟨by decide, by decide⟩
  rw [decide_eq_true rfl, Bool.and_self] at this
  exact this
theorem sameQ_true (x : Rat) (h : okQ 100000000000 x) : Ret Tryz.prog 50 [qD x, qD x] (· = .bool true) := by
  have := ref03_SameQ x x h h
  rw [decide_eq_true rfl] at this
  exact this
theorem contains_Q (i : I2) (hle : i.1 ≤ i.2) (hi : okI 50000 i) (x : Rat) (hx : okQ 50000 x) (h : In i x) : Ret Tryz.prog 43 [iQ i, qD x] (· = .bool true) := by
  have := interval_ContainsI i hle hi (rq x) (ok_rq hx)
  rw [rv_rq, containsI_iff.2 h] at this
  exact this
theorem within_Q (i j : I2) (hi : i.1 ≤ i.2) (hj : j.1 ≤ j.2) (oi : okI 50000 i) (oj : okI 50000 j) (h : withinI i j = true) : Ret Tryz.prog 29 [iQ i, iQ j] (· = .bool true) := by
  have := interval_WithinI i j hi hj oi oj
  rw [h] at this
  exact this
theorem law04_among (v : Rat) (l : List Rat) (hl : l.length < 1000000) (hv : okQ 1000000 v) (h : ∀ q ∈ l, okQ 1000000 q) (hm : v ∈ l) : Ret Tryz.prog 16 [qD v, qsD l] (· = .bool true) := by
  refine ret_of_awp tab Tryz.func16 rfl rfl (Nat.le_of_ble_eq_true rfl) (fun w0 F0 => ?_)
  repeat' (first
    | (show awpL _ _ _ _ _; first | refine goL ?_ | (refine gdLD rfl rfl (fun _ => ?_) (fun _ => ?_) <;> try (exfalso; omega)) | (refine gdLN rfl rfl (fun _ => ?_) (fun _ => ?_) <;> try (exfalso; omega)) | refine gdL rfl rfl (fun _ => ?_) (fun _ => ?_))
    | (show awp _ _ _ _; first | refine goA ?_ | refine awp_reg 4 5 mixed (by kernel_rfl) (by kernel_rfl) ?_ | (refine awp_condD rfl (fun _ => ?_) (fun _ => ?_) <;> try (exfalso; omega)) | (refine awp_condN rfl (fun _ => ?_) (fun _ => ?_) <;> try (exfalso; omega)) | refine awp_cond rfl (fun _ => ?_) (fun _ => ?_))
    | (show andThen _ _ _ _; first | refine goN ?_)
    | (show inBlock _ _ _ _; first | refine goB ?_)
    | (show awpR _ _ _ _ _ _; first | refine goR ?_ | (refine gdRD rfl rfl (fun _ => ?_) (fun _ => ?_) <;> try (exfalso; omega)) | (refine gdRN rfl rfl (fun _ => ?_) (fun _ => ?_) <;> try (exfalso; omega)) | refine gdR rfl rfl (fun _ => ?_) (fun _ => ?_))
    | (show retPost _ _ _ _ _; first | refine finF true rfl rfl sc ?_ | refine finF false rfl rfl sc ?_ | refine finC false rfl rfl sc sc ?_ | refine finN rfl rfl sc ?_ | refine finL true rfl rfl sc rfl (LeR.cons rfl leL LeR.nil) ?_ | refine finE true rfl rfl sc ?_ | refine finE false rfl rfl sc ?_))
  refine awp_loop1 (fun (i : Nat) => ([(1, .d (qsD l)), (2, .ptr 2 0), (5, .d (.int .i64 i))], [(2, .box 26 ((rC (rq v)).map V.d))])) (fun i => i ≤ l.length ∧ v ∉ l.take i) (fun i => l.length - i) 0 ⟨by omega, by simp⟩ ⟨rfl, rfl, rfl, rfl⟩ ⟨rfl, trivial⟩ (fun i hi => ?_)
  obtain ⟨i1, i2⟩ := hi
  by_cases h3 : i < l.length
  · have hg := getD_ok h h3
    have ht : l.take (i + 1) = l.take i ++ [l.getD i 0] := by rw [List.take_add_one]; simp [h3, List.getD, List.getElem?_eq_getElem h3]
    have s1 := ref03_SameQ v (l.getD i 0) (hv.mono (by decide)) (hg.mono (by decide))
    by_cases he : v = l.getD i 0
    · rw [decide_eq_true he] at s1
      repeat' (first
        | (show awpL _ _ _ _ _; first | refine goL ?_ | refine cl 50 tt rfl rfl rfl (hr := s1) (k := ?_) | (refine gdLD rfl rfl (fun _ => ?_) (fun _ => ?_) <;> try (exfalso; omega)) | (refine gdLN rfl rfl (fun _ => ?_) (fun _ => ?_) <;> try (exfalso; omega)) | refine gdL rfl rfl (fun _ => ?_) (fun _ => ?_))
        | (show awp _ _ _ _; first | refine goA ?_ | refine awp_reg 4 5 mixed (by kernel_rfl) (by kernel_rfl) ?_ | (refine awp_condD rfl (fun _ => ?_) (fun _ => ?_) <;> try (exfalso; omega)) | (refine awp_condN rfl (fun _ => ?_) (fun _ => ?_) <;> try (exfalso; omega)) | refine awp_cond rfl (fun _ => ?_) (fun _ => ?_))
        | (show andThen _ _ _ _; first | refine goN ?_)
        | (show inBlock _ _ _ _; first | refine goB ?_)
        | (show awpR _ _ _ _ _ _; first | refine goR ?_ | refine clR 50 tt rfl rfl rfl (hr := s1) (k := ?_) | (refine gdRD rfl rfl (fun _ => ?_) (fun _ => ?_) <;> try (exfalso; omega)) | (refine gdRN rfl rfl (fun _ => ?_) (fun _ => ?_) <;> try (exfalso; omega)) | refine gdR rfl rfl (fun _ => ?_) (fun _ => ?_))
        | (show retPost _ _ _ _ _; first | refine finF true rfl rfl sc ?_ | refine finF false rfl rfl sc ?_ | refine finC false rfl rfl sc sc ?_ | refine finN rfl rfl sc ?_ | refine finL true rfl rfl sc rfl (LeR.cons rfl leL LeR.nil) ?_ | refine finE true rfl rfl sc ?_ | refine finE false rfl rfl sc ?_))
      rfl
    · rw [decide_eq_false he] at s1
      repeat' (first
        | (show awpL _ _ _ _ _; first | refine goL ?_ | refine cl 50 tt rfl rfl rfl (hr := s1) (k := ?_) | (refine gdLD rfl rfl (fun _ => ?_) (fun _ => ?_) <;> try (exfalso; omega)) | (refine gdLN rfl rfl (fun _ => ?_) (fun _ => ?_) <;> try (exfalso; omega)) | refine gdL rfl rfl (fun _ => ?_) (fun _ => ?_))
        | (show awp _ _ _ _; first | refine goA ?_ | refine awp_reg 4 5 mixed (by kernel_rfl) (by kernel_rfl) ?_ | (refine awp_condD rfl (fun _ => ?_) (fun _ => ?_) <;> try (exfalso; omega)) | (refine awp_condN rfl (fun _ => ?_) (fun _ => ?_) <;> try (exfalso; omega)) | refine awp_cond rfl (fun _ => ?_) (fun _ => ?_))
        | (show andThen _ _ _ _; first | refine goN ?_)
        | (show inBlock _ _ _ _; first | refine goB ?_)
        | (show awpR _ _ _ _ _ _; first | refine goR ?_ | refine clR 50 tt rfl rfl rfl (hr := s1) (k := ?_) | (refine gdRD rfl rfl (fun _ => ?_) (fun _ => ?_) <;> try (exfalso; omega)) | (refine gdRN rfl rfl (fun _ => ?_) (fun _ => ?_) <;> try (exfalso; omega)) | refine gdR rfl rfl (fun _ => ?_) (fun _ => ?_))
        | (show retPost _ _ _ _ _; first | refine finF true rfl rfl sc ?_ | refine finF false rfl rfl sc ?_ | refine finC false rfl rfl sc sc ?_ | refine finN rfl rfl sc ?_ | refine finL true rfl rfl sc rfl (LeR.cons rfl leL LeR.nil) ?_ | refine finE true rfl rfl sc ?_ | refine finE false rfl rfl sc ?_))
      exact ⟨i + 1, ⟨by omega, by rw [ht]; simp [i2]; exact fun e => he (by simpa using e)⟩, by omega, ⟨rfl, rfl, iv (by omega), rfl⟩, rfl, trivial⟩
  · rw [List.take_of_length_le (by omega)] at i2
    exact absurd hm i2
end Go.Proofs.YtjjefhbceoeibaaGreat
