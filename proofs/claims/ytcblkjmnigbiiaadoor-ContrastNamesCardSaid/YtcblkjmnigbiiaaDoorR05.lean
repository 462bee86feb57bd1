/-
  Contracts of functions of the program, walked with the abstract layer. Conditions: as each says.
-/
import Derived.Test.YtcblkjmnigbiiaaDoorR04
import Derived.Test.YtcblkjmnigbiiaaDoorRats
set_option linter.unusedVariables false
set_option linter.unusedSimpArgs false
namespace Go.Proofs.YtcblkjmnigbiiaaDoor
open Go.Vw
attribute [local irreducible] awp awpL awpR

theorem ref03_FromInt (v : Int) (h1 : -9223372036854775808 ≤ v) (h2 : v < 9223372036854775808) : Ret Tryd.prog 19 [.int .i64 v] (· = rD (zR v)) := by
  refine ret_of_awp tab Tryd.func19 rfl rfl (Nat.le_of_ble_eq_true rfl) (fun w0 F0 => ?_)
  repeat' (first
    | (show awpL _ _ _ _ _; first | refine goL ?_ | refine cl 41 tt rfl rfl rfl (hr := ref02_FromInt v h1 h2) (k := ?_) | (refine gdLD rfl rfl (fun _ => ?_) (fun _ => ?_) <;> try (exfalso; omega)) | (refine gdLN rfl rfl (fun _ => ?_) (fun _ => ?_) <;> try (exfalso; omega)) | refine gdL rfl rfl (fun _ => ?_) (fun _ => ?_))
    | (show awp _ _ _ _; first | refine goA ?_ | (refine awp_condD rfl (fun _ => ?_) (fun _ => ?_) <;> try (exfalso; omega)) | (refine awp_condN rfl (fun _ => ?_) (fun _ => ?_) <;> try (exfalso; omega)) | refine awp_cond rfl (fun _ => ?_) (fun _ => ?_))
    | (show andThen _ _ _ _; first | refine goN ?_)
    | (show inBlock _ _ _ _; first | refine goB ?_)
    | (show awpR _ _ _ _ _ _; first | refine goR ?_ | refine clR 41 tt rfl rfl rfl (hr := ref02_FromInt v h1 h2) (k := ?_) | (refine gdRD rfl rfl (fun _ => ?_) (fun _ => ?_) <;> try (exfalso; omega)) | (refine gdRN rfl rfl (fun _ => ?_) (fun _ => ?_) <;> try (exfalso; omega)) | refine gdR rfl rfl (fun _ => ?_) (fun _ => ?_))
    | (show retPost _ _ _ _ _; first | refine finF true rfl rfl sc ?_ | refine finF false rfl rfl sc ?_ | refine finN rfl rfl sc ?_ | refine finL true rfl rfl sc rfl (LeR.cons rfl leL LeR.nil) ?_ | refine finA true rfl rfl sc ?_ | refine finA false rfl rfl sc ?_ | refine finE true rfl rfl sc ?_ | refine finE false rfl rfl sc ?_))
  exact leL

/-- The lists of a number have bounded length. -/
def okR (k : Nat) (r : R3) : Prop := r.2.1.length < k ∧ r.2.2.length < k

theorem ref03_Same (r t : R3) (h1 : okR 100000000000 r) (h2 : okR 100000000000 t) : Ret Tryd.prog 18 [rD r, rD t] (· = .bool (decide (r = t))) := by
  obtain ⟨n1, m1, d1⟩ := r
  obtain ⟨n2, m2, d2⟩ := t
  obtain ⟨h1, h1'⟩ := h1
  obtain ⟨h2, h2'⟩ := h2
  have hs := ref02_Same n1 n2 m1 m2 h1 h2
  have ht := ref01_Same d1 d2 (Nat.lt_trans h1' (by decide)) (Nat.lt_trans h2' (by decide))
  by_cases h : n1 = n2 ∧ m1 = m2
  · rw [decide_eq_true h] at hs
    refine ret_of_awp tab Tryd.func18 rfl rfl (Nat.le_of_ble_eq_true rfl) (fun w0 F0 => ?_)
    repeat' (first
      | (show awpL _ _ _ _ _; first | refine goL ?_ | refine cl 39 tt rfl rfl rfl (hr := hs) (k := ?_) | refine cl 40 tt rfl rfl rfl (hr := ht) (k := ?_) | (refine gdLD rfl rfl (fun _ => ?_) (fun _ => ?_) <;> try (exfalso; omega)) | (refine gdLN rfl rfl (fun _ => ?_) (fun _ => ?_) <;> try (exfalso; omega)) | refine gdL rfl rfl (fun _ => ?_) (fun _ => ?_))
      | (show awp _ _ _ _; first | refine goA ?_ | (refine awp_condD rfl (fun _ => ?_) (fun _ => ?_) <;> try (exfalso; omega)) | (refine awp_condN rfl (fun _ => ?_) (fun _ => ?_) <;> try (exfalso; omega)) | refine awp_cond rfl (fun _ => ?_) (fun _ => ?_))
      | (show andThen _ _ _ _; first | refine goN ?_)
      | (show inBlock _ _ _ _; first | refine goB ?_)
      | (show awpR _ _ _ _ _ _; first | refine goR ?_ | refine clR 39 tt rfl rfl rfl (hr := hs) (k := ?_) | refine clR 40 tt rfl rfl rfl (hr := ht) (k := ?_) | (refine gdRD rfl rfl (fun _ => ?_) (fun _ => ?_) <;> try (exfalso; omega)) | (refine gdRN rfl rfl (fun _ => ?_) (fun _ => ?_) <;> try (exfalso; omega)) | refine gdR rfl rfl (fun _ => ?_) (fun _ => ?_))
      | (show retPost _ _ _ _ _; first | refine finF true rfl rfl sc ?_ | refine finF false rfl rfl sc ?_ | refine finN rfl rfl sc ?_ | refine finL true rfl rfl sc rfl (LeR.cons rfl leL LeR.nil) ?_ | refine finE true rfl rfl sc ?_ | refine finE false rfl rfl sc ?_))
    simp [h]
  · rw [decide_eq_false h] at hs
    refine ret_of_awp tab Tryd.func18 rfl rfl (Nat.le_of_ble_eq_true rfl) (fun w0 F0 => ?_)
    repeat' (first
      | (show awpL _ _ _ _ _; first | refine goL ?_ | refine cl 39 tt rfl rfl rfl (hr := hs) (k := ?_) | refine cl 40 tt rfl rfl rfl (hr := ht) (k := ?_) | (refine gdLD rfl rfl (fun _ => ?_) (fun _ => ?_) <;> try (exfalso; omega)) | (refine gdLN rfl rfl (fun _ => ?_) (fun _ => ?_) <;> try (exfalso; omega)) | refine gdL rfl rfl (fun _ => ?_) (fun _ => ?_))
      | (show awp _ _ _ _; first | refine goA ?_ | (refine awp_condD rfl (fun _ => ?_) (fun _ => ?_) <;> try (exfalso; omega)) | (refine awp_condN rfl (fun _ => ?_) (fun _ => ?_) <;> try (exfalso; omega)) | refine awp_cond rfl (fun _ => ?_) (fun _ => ?_))
      | (show andThen _ _ _ _; first | refine goN ?_)
      | (show inBlock _ _ _ _; first | refine goB ?_)
      | (show awpR _ _ _ _ _ _; first | refine goR ?_ | refine clR 39 tt rfl rfl rfl (hr := hs) (k := ?_) | refine clR 40 tt rfl rfl rfl (hr := ht) (k := ?_) | (refine gdRD rfl rfl (fun _ => ?_) (fun _ => ?_) <;> try (exfalso; omega)) | (refine gdRN rfl rfl (fun _ => ?_) (fun _ => ?_) <;> try (exfalso; omega)) | refine gdR rfl rfl (fun _ => ?_) (fun _ => ?_))
      | (show retPost _ _ _ _ _; first | refine finF true rfl rfl sc ?_ | refine finF false rfl rfl sc ?_ | refine finN rfl rfl sc ?_ | refine finL true rfl rfl sc rfl (LeR.cons rfl leL LeR.nil) ?_ | refine finE true rfl rfl sc ?_ | refine finE false rfl rfl sc ?_))
    all_goals simp
    all_goals intro g1 g2; exact absurd ⟨g1, g2⟩ h

theorem ref03_SameList (a b : List R3) (hla : a.length < 100000000000) (hlb : b.length < 100000000000) (ha : ∀ r ∈ a, okR 100000000000 r) (hb : ∀ r ∈ b, okR 100000000000 r) : Ret Tryd.prog 29 [rsD a, rsD b] (· = .bool (decide (a = b))) := by
  refine ret_of_awp tab Tryd.func29 rfl rfl (Nat.le_of_ble_eq_true rfl) (fun w0 F0 => ?_)
  repeat' (first
    | (show awpL _ _ _ _ _; first | refine goL ?_ | (refine gdLD rfl rfl (fun _ => ?_) (fun _ => ?_) <;> try (exfalso; omega)) | (refine gdLN rfl rfl (fun _ => ?_) (fun _ => ?_) <;> try (exfalso; omega)) | refine gdL rfl rfl (fun _ => ?_) (fun _ => ?_))
    | (show awp _ _ _ _; first | refine goA ?_ | refine awp_reg 6 8 mixed (by kernel_rfl) ?_ | (refine awp_condD rfl (fun _ => ?_) (fun _ => ?_) <;> try (exfalso; omega)) | (refine awp_condN rfl (fun _ => ?_) (fun _ => ?_) <;> try (exfalso; omega)) | refine awp_cond rfl (fun _ => ?_) (fun _ => ?_))
    | (show andThen _ _ _ _; first | refine goN ?_)
    | (show inBlock _ _ _ _; first | refine goB ?_)
    | (show awpR _ _ _ _ _ _; first | refine goR ?_ | (refine gdRD rfl rfl (fun _ => ?_) (fun _ => ?_) <;> try (exfalso; omega)) | (refine gdRN rfl rfl (fun _ => ?_) (fun _ => ?_) <;> try (exfalso; omega)) | refine gdR rfl rfl (fun _ => ?_) (fun _ => ?_))
    | (show retPost _ _ _ _ _; first | refine finF true rfl rfl sc ?_ | refine finF false rfl rfl sc ?_ | refine finN rfl rfl sc ?_ | refine finL true rfl rfl sc rfl (LeR.cons rfl leL LeR.nil) ?_ | refine finE true rfl rfl sc ?_ | refine finE false rfl rfl sc ?_))
  · rename_i h
    rw [decide_eq_false (fun e => h (by rw [e]))]
  rename_i h
  refine awp_loop1 (fun (i : Nat) => ([(0, .d (rsD a)), (1, .d (rsD b)), (5, .d (.int .i64 i))], [])) (fun i => i ≤ a.length ∧ a.take i = b.take i) (fun i => a.length - i) 0 ⟨by simp, by simp⟩ ⟨rfl, rfl, rfl, rfl⟩ trivial (fun i hi => ?_)
  obtain ⟨h1, h2⟩ := hi
  by_cases h3 : i < a.length
  · have i2 : i < b.length := by omega
    have g1 : a.getD i r0 ∈ a := by rw [List.getD, List.getElem?_eq_getElem h3]; exact List.getElem_mem h3
    have g2 : b.getD i r0 ∈ b := by rw [List.getD, List.getElem?_eq_getElem i2]; exact List.getElem_mem i2
    have hs := ref03_Same _ _ (ha _ g1) (hb _ g2)
    repeat' (first
      | (show awpL _ _ _ _ _; first | refine goL ?_ | refine cl 18 tt rfl rfl rfl (hr := hs) (k := ?_) | (refine gdLD rfl rfl (fun _ => ?_) (fun _ => ?_) <;> try (exfalso; omega)) | (refine gdLN rfl rfl (fun _ => ?_) (fun _ => ?_) <;> try (exfalso; omega)) | refine gdL rfl rfl (fun _ => ?_) (fun _ => ?_))
      | (show awp _ _ _ _; first | refine goA ?_ | refine awp_reg 6 8 mixed (by kernel_rfl) ?_ | (refine awp_condD rfl (fun _ => ?_) (fun _ => ?_) <;> try (exfalso; omega)) | (refine awp_condN rfl (fun _ => ?_) (fun _ => ?_) <;> try (exfalso; omega)) | refine awp_cond rfl (fun _ => ?_) (fun _ => ?_))
      | (show andThen _ _ _ _; first | refine goN ?_)
      | (show inBlock _ _ _ _; first | refine goB ?_)
      | (show awpR _ _ _ _ _ _; first | refine goR ?_ | refine clR 18 tt rfl rfl rfl (hr := hs) (k := ?_) | (refine gdRD rfl rfl (fun _ => ?_) (fun _ => ?_) <;> try (exfalso; omega)) | (refine gdRN rfl rfl (fun _ => ?_) (fun _ => ?_) <;> try (exfalso; omega)) | refine gdR rfl rfl (fun _ => ?_) (fun _ => ?_))
      | (show retPost _ _ _ _ _; first | refine finF true rfl rfl sc ?_ | refine finF false rfl rfl sc ?_ | refine finN rfl rfl sc ?_ | refine finL true rfl rfl sc rfl (LeR.cons rfl leL LeR.nil) ?_ | refine finE true rfl rfl sc ?_ | refine finE false rfl rfl sc ?_))
    · rename_i e
      rw [decide_eq_false (fun e' => by subst e'; exact e rfl)]
    · rename_i e
      exact ⟨i + 1, ⟨by omega, take_ext r0 h2 (by omega) (by omega) e⟩, by omega, ⟨rfl, rfl, iv (by omega), rfl⟩, trivial⟩
  · repeat' (first
      | (show awpL _ _ _ _ _; first | refine goL ?_ | (refine gdLD rfl rfl (fun _ => ?_) (fun _ => ?_) <;> try (exfalso; omega)) | (refine gdLN rfl rfl (fun _ => ?_) (fun _ => ?_) <;> try (exfalso; omega)) | refine gdL rfl rfl (fun _ => ?_) (fun _ => ?_))
      | (show awp _ _ _ _; first | refine goA ?_ | refine awp_reg 6 8 mixed (by kernel_rfl) ?_ | (refine awp_condD rfl (fun _ => ?_) (fun _ => ?_) <;> try (exfalso; omega)) | (refine awp_condN rfl (fun _ => ?_) (fun _ => ?_) <;> try (exfalso; omega)) | refine awp_cond rfl (fun _ => ?_) (fun _ => ?_))
      | (show andThen _ _ _ _; first | refine goN ?_)
      | (show inBlock _ _ _ _; first | refine goB ?_)
      | (show awpR _ _ _ _ _ _; first | refine goR ?_ | (refine gdRD rfl rfl (fun _ => ?_) (fun _ => ?_) <;> try (exfalso; omega)) | (refine gdRN rfl rfl (fun _ => ?_) (fun _ => ?_) <;> try (exfalso; omega)) | refine gdR rfl rfl (fun _ => ?_) (fun _ => ?_))
      | (show retPost _ _ _ _ _; first | refine finF true rfl rfl sc ?_ | refine finF false rfl rfl sc ?_ | refine finN rfl rfl sc ?_ | refine finL true rfl rfl sc rfl (LeR.cons rfl leL LeR.nil) ?_ | refine finE true rfl rfl sc ?_ | refine finE false rfl rfl sc ?_))
    rw [List.take_of_length_le (by omega), List.take_of_length_le (by omega)] at h2
    rw [decide_eq_true h2]

theorem ref03_SameLists (a b : List (List R3)) (hla : a.length < 100000000000) (hlb : b.length < 100000000000) (ha : ∀ l ∈ a, l.length < 100000000000 ∧ ∀ r ∈ l, okR 100000000000 r) (hb : ∀ l ∈ b, l.length < 100000000000 ∧ ∀ r ∈ l, okR 100000000000 r) : Ret Tryd.prog 10 [rssD a, rssD b] (· = .bool (decide (a = b))) := by
  refine ret_of_awp tab Tryd.func10 rfl rfl (Nat.le_of_ble_eq_true rfl) (fun w0 F0 => ?_)
  repeat' (first
    | (show awpL _ _ _ _ _; first | refine goL ?_ | (refine gdLD rfl rfl (fun _ => ?_) (fun _ => ?_) <;> try (exfalso; omega)) | (refine gdLN rfl rfl (fun _ => ?_) (fun _ => ?_) <;> try (exfalso; omega)) | refine gdL rfl rfl (fun _ => ?_) (fun _ => ?_))
    | (show awp _ _ _ _; first | refine goA ?_ | refine awp_reg 6 8 mixed (by kernel_rfl) ?_ | (refine awp_condD rfl (fun _ => ?_) (fun _ => ?_) <;> try (exfalso; omega)) | (refine awp_condN rfl (fun _ => ?_) (fun _ => ?_) <;> try (exfalso; omega)) | refine awp_cond rfl (fun _ => ?_) (fun _ => ?_))
    | (show andThen _ _ _ _; first | refine goN ?_)
    | (show inBlock _ _ _ _; first | refine goB ?_)
    | (show awpR _ _ _ _ _ _; first | refine goR ?_ | (refine gdRD rfl rfl (fun _ => ?_) (fun _ => ?_) <;> try (exfalso; omega)) | (refine gdRN rfl rfl (fun _ => ?_) (fun _ => ?_) <;> try (exfalso; omega)) | refine gdR rfl rfl (fun _ => ?_) (fun _ => ?_))
    | (show retPost _ _ _ _ _; first | refine finF true rfl rfl sc ?_ | refine finF false rfl rfl sc ?_ | refine finN rfl rfl sc ?_ | refine finL true rfl rfl sc rfl (LeR.cons rfl leL LeR.nil) ?_ | refine finE true rfl rfl sc ?_ | refine finE false rfl rfl sc ?_))
  · rename_i h
    rw [decide_eq_false (fun e => h (by rw [e]))]
  rename_i h
  refine awp_loop1 (fun (i : Nat) => ([(0, .d (rssD a)), (1, .d (rssD b)), (5, .d (.int .i64 i))], [])) (fun i => i ≤ a.length ∧ a.take i = b.take i) (fun i => a.length - i) 0 ⟨by simp, by simp⟩ ⟨rfl, rfl, rfl, rfl⟩ trivial (fun i hi => ?_)
  obtain ⟨h1, h2⟩ := hi
  by_cases h3 : i < a.length
  · have i2 : i < b.length := by omega
    have g1 : a.getD i [] ∈ a := by rw [List.getD, List.getElem?_eq_getElem h3]; exact List.getElem_mem h3
    have g2 : b.getD i [] ∈ b := by rw [List.getD, List.getElem?_eq_getElem i2]; exact List.getElem_mem i2
    have hs := ref03_SameList _ _ (ha _ g1).1 (hb _ g2).1 (ha _ g1).2 (hb _ g2).2
    repeat' (first
      | (show awpL _ _ _ _ _; first | refine goL ?_ | refine cl 29 tt rfl rfl rfl (hr := hs) (k := ?_) | (refine gdLD rfl rfl (fun _ => ?_) (fun _ => ?_) <;> try (exfalso; omega)) | (refine gdLN rfl rfl (fun _ => ?_) (fun _ => ?_) <;> try (exfalso; omega)) | refine gdL rfl rfl (fun _ => ?_) (fun _ => ?_))
      | (show awp _ _ _ _; first | refine goA ?_ | refine awp_reg 6 8 mixed (by kernel_rfl) ?_ | (refine awp_condD rfl (fun _ => ?_) (fun _ => ?_) <;> try (exfalso; omega)) | (refine awp_condN rfl (fun _ => ?_) (fun _ => ?_) <;> try (exfalso; omega)) | refine awp_cond rfl (fun _ => ?_) (fun _ => ?_))
      | (show andThen _ _ _ _; first | refine goN ?_)
      | (show inBlock _ _ _ _; first | refine goB ?_)
      | (show awpR _ _ _ _ _ _; first | refine goR ?_ | refine clR 29 tt rfl rfl rfl (hr := hs) (k := ?_) | (refine gdRD rfl rfl (fun _ => ?_) (fun _ => ?_) <;> try (exfalso; omega)) | (refine gdRN rfl rfl (fun _ => ?_) (fun _ => ?_) <;> try (exfalso; omega)) | refine gdR rfl rfl (fun _ => ?_) (fun _ => ?_))
      | (show retPost _ _ _ _ _; first | refine finF true rfl rfl sc ?_ | refine finF false rfl rfl sc ?_ | refine finN rfl rfl sc ?_ | refine finL true rfl rfl sc rfl (LeR.cons rfl leL LeR.nil) ?_ | refine finE true rfl rfl sc ?_ | refine finE false rfl rfl sc ?_))
    · rename_i e
      rw [decide_eq_false (fun e' => by subst e'; exact e rfl)]
    · rename_i e
      exact ⟨i + 1, ⟨by omega, take_ext [] h2 (by omega) (by omega) e⟩, by omega, ⟨rfl, rfl, iv (by omega), rfl⟩, trivial⟩
  · repeat' (first
      | (show awpL _ _ _ _ _; first | refine goL ?_ | (refine gdLD rfl rfl (fun _ => ?_) (fun _ => ?_) <;> try (exfalso; omega)) | (refine gdLN rfl rfl (fun _ => ?_) (fun _ => ?_) <;> try (exfalso; omega)) | refine gdL rfl rfl (fun _ => ?_) (fun _ => ?_))
      | (show awp _ _ _ _; first | refine goA ?_ | refine awp_reg 6 8 mixed (by kernel_rfl) ?_ | (refine awp_condD rfl (fun _ => ?_) (fun _ => ?_) <;> try (exfalso; omega)) | (refine awp_condN rfl (fun _ => ?_) (fun _ => ?_) <;> try (exfalso; omega)) | refine awp_cond rfl (fun _ => ?_) (fun _ => ?_))
      | (show andThen _ _ _ _; first | refine goN ?_)
      | (show inBlock _ _ _ _; first | refine goB ?_)
      | (show awpR _ _ _ _ _ _; first | refine goR ?_ | (refine gdRD rfl rfl (fun _ => ?_) (fun _ => ?_) <;> try (exfalso; omega)) | (refine gdRN rfl rfl (fun _ => ?_) (fun _ => ?_) <;> try (exfalso; omega)) | refine gdR rfl rfl (fun _ => ?_) (fun _ => ?_))
      | (show retPost _ _ _ _ _; first | refine finF true rfl rfl sc ?_ | refine finF false rfl rfl sc ?_ | refine finN rfl rfl sc ?_ | refine finL true rfl rfl sc rfl (LeR.cons rfl leL LeR.nil) ?_ | refine finE true rfl rfl sc ?_ | refine finE false rfl rfl sc ?_))
    rw [List.take_of_length_le (by omega), List.take_of_length_le (by omega)] at h2
    rw [decide_eq_true h2]
end Go.Proofs.YtcblkjmnigbiiaaDoor
