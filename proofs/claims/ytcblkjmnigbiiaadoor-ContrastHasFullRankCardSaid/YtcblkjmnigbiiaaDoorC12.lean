/-
  Contracts of functions of the program, walked with the abstract layer. Conditions: as each says.
-/
import Derived.Test.YtcblkjmnigbiiaaDoorC11
set_option linter.unusedVariables false
set_option linter.unusedSimpArgs false
namespace Go.Proofs.YtcblkjmnigbiiaaDoor
open Go.Vw
attribute [local irreducible] awp awpL awpR

@[reducible] def upto (j : Nat) : List Int := (List.range j).map Int.ofNat
theorem upto_succ (j : Nat) : upto j ++ [(j : Int)] = upto (j + 1) := by simp [upto, List.range_succ]
theorem upto_len (j : Nat) : (upto j).length = j := by simp [upto]
theorem ref03_FromInt1 : Ret Tryd.prog 19 [.int .i64 1] (· = qD 1) := by
  have := ref03_FromInt 1 (by omega) (by omega)
  rw [← rq_int] at this
  exact this
theorem ref06_reduce (m : List (List R3)) (n : Nat) (hn : 1 ≤ n) (hn' : n ≤ 96) (hl : m.length = n) (hm : ∀ l ∈ m, l.length < 1000000000 ∧ ∀ r ∈ l, RatOk r 10000000) (h : RunOk n (rvM m)) : Ret Tryd.prog 56 [rssD m] (· = .tup [qssD (mAt (rvM m) n), i64s (upto n), qD (facAt (rvM m) n)]) := by
  have ht := ref06_Take m (by omega) hm
  have hf1 := ref03_FromInt1
  rw [hl] at ht
  generalize hM : rvM m = M at *
  refine ret_of_awp tab Tryd.func56 rfl rfl (Nat.le_of_ble_eq_true rfl) (fun w0 F0 => ?_)
  repeat' (first
    | (show awpL _ _ _ _ _; first | refine goL ?_ | refine clB 73 [100] (ht) tt rfl rfl rfl rfl rfl rfl leVT allB ?_ | refine cl 19 tt rfl rfl rfl (hr := hf1) (k := ?_) | (refine gdLD rfl rfl (fun _ => ?_) (fun _ => ?_) <;> try (exfalso; omega)) | (refine gdLN rfl rfl (fun _ => ?_) (fun _ => ?_) <;> try (exfalso; omega)) | refine gdL rfl rfl (fun _ => ?_) (fun _ => ?_))
    | (show awp _ _ _ _; first | refine goA ?_ | refine awp_reg 15 8 mixed (by kernel_rfl) ?_ | refine awp_reg 16 16 mixed (by kernel_rfl) ?_ | refine awp_reg 21 20 mixed (by kernel_rfl) ?_ | refine awp_reg 23 5 mixed (by kernel_rfl) ?_ | (refine awp_condD rfl (fun _ => ?_) (fun _ => ?_) <;> try (exfalso; omega)) | (refine awp_condN rfl (fun _ => ?_) (fun _ => ?_) <;> try (exfalso; omega)) | refine awp_cond rfl (fun _ => ?_) (fun _ => ?_))
    | (show andThen _ _ _ _; first | refine goN ?_)
    | (show inBlock _ _ _ _; first | refine goB ?_)
    | (show awpR _ _ _ _ _ _; first | refine goR ?_ | refine clR 19 tt rfl rfl rfl (hr := hf1) (k := ?_) | (refine gdRD rfl rfl (fun _ => ?_) (fun _ => ?_) <;> try (exfalso; omega)) | (refine gdRN rfl rfl (fun _ => ?_) (fun _ => ?_) <;> try (exfalso; omega)) | refine gdR rfl rfl (fun _ => ?_) (fun _ => ?_))
    | (show retPost _ _ _ _ _; first | refine finF true rfl rfl sc ?_ | refine finF false rfl rfl sc ?_ | refine finN rfl rfl sc ?_ | refine finL true rfl rfl sc rfl (LeR.cons rfl leL LeR.nil) ?_ | refine finE true rfl rfl sc ?_ | refine finE false rfl rfl sc ?_))
  refine awp_adopt 5 101 3 1 (eI .i64) 0 rfl ?_
  refine awp_loop1 (fun (j : Nat) => ([(0, .own 100 0 n 33 1), (4, .ptr 4 0), (5, .own 101 0 (upto j).length 3 1), (6, .ptr 6 0), (7, .d (.int .i64 j))], [(4, .box 44 [.d (.bool false), .d .nils, .d .nils]), (6, .box 44 ((qC (facAt M j)).map V.d)), (100, .data 33 1 eQ [] (mAt M j)), (101, .data 3 1 (eI .i64) 0 (upto j))])) (fun j => j ≤ n) (fun j => n - j) 0 (by omega) ⟨rfl, rfl, rfl, rfl, rfl, rfl⟩ ⟨rfl, rfl, rfl, rfl, trivial⟩ (fun j hj => ?_)
  have hcol := ref06_Columns (mAt M j)
  have hg := h.good j hj
  have hlen := hg.len
  rw [hg.row 0 (by omega)] at hcol
  have hul := upto_len j
  by_cases h3 : j < n
  · have hg2 := h.scaled j h3
    have hlen2 := hg2.len
    have hp := h.piv j h3
    have hps := hg.at2 h3 h3
    have hsg := ref03_SignQ (at2 (mAt M j) j j) hps.ok
    have hmul := ref03_MulQ (facAt M j) (at2 (mAt M j) j j) (h.fac j h3).ok hps.ok
    have hquo := ref03_QuoQ 1 (at2 (mAt M j) j j) smallQ.one.ok hps.ok hp
    have htim := ref06_Times ((mAt M j).getD j []) (1 / at2 (mAt M j) j j) (by rw [hg.row j h3]; omega) (fun q hq => (hg.small j h3 q hq).ok) hps.inv.ok
    have hs0 : (at2 (mAt M j) j j).num.sign ≠ 0 := fun e => hp (Rat.num_eq_zero.1 (Int.sign_eq_zero_iff_zero.1 e))
    have hrow := hg.row j h3
    generalize hsgn : (at2 (mAt M j) j j).num.sign = sg at *
    repeat' (first
      | (show awpL _ _ _ _ _; first | refine goL ?_ | refine cl 74 tt rfl rfl rfl (hr := hcol) (k := ?_) | (refine gdLD rfl rfl (fun _ => ?_) (fun _ => ?_) <;> try (exfalso; omega)) | (refine gdLN rfl rfl (fun _ => ?_) (fun _ => ?_) <;> try (exfalso; omega)) | refine gdL rfl rfl (fun _ => ?_) (fun _ => ?_))
      | (show awp _ _ _ _; first | refine goA ?_ | refine awp_reg 15 8 mixed (by kernel_rfl) ?_ | refine awp_reg 16 16 mixed (by kernel_rfl) ?_ | refine awp_reg 21 20 mixed (by kernel_rfl) ?_ | refine awp_reg 23 5 mixed (by kernel_rfl) ?_ | (refine awp_condD rfl (fun _ => ?_) (fun _ => ?_) <;> try (exfalso; omega)) | (refine awp_condN rfl (fun _ => ?_) (fun _ => ?_) <;> try (exfalso; omega)) | refine awp_cond rfl (fun _ => ?_) (fun _ => ?_))
      | (show andThen _ _ _ _; first | refine goN ?_)
      | (show inBlock _ _ _ _; first | refine goB ?_)
      | (show awpR _ _ _ _ _ _; first | refine goR ?_ | refine clR 74 tt rfl rfl rfl (hr := hcol) (k := ?_) | (refine gdRD rfl rfl (fun _ => ?_) (fun _ => ?_) <;> try (exfalso; omega)) | (refine gdRN rfl rfl (fun _ => ?_) (fun _ => ?_) <;> try (exfalso; omega)) | refine gdR rfl rfl (fun _ => ?_) (fun _ => ?_))
      | (show retPost _ _ _ _ _; first | refine finF true rfl rfl sc ?_ | refine finF false rfl rfl sc ?_ | refine finN rfl rfl sc ?_ | refine finL true rfl rfl sc rfl (LeR.cons rfl leL LeR.nil) ?_ | refine finE true rfl rfl sc ?_ | refine finE false rfl rfl sc ?_))
    refine awp_loop1 (fun (_ : Unit) => ([(0, .own 100 0 n 33 1), (4, .ptr 4 0), (5, .own 101 0 (upto j).length 3 1), (6, .ptr 6 0), (7, .d (.int .i64 j)), (8, .d (.int .i64 j)), (9, .d (.int .i64 j))], [(4, .box 44 [.d (.bool false), .d .nils, .d .nils]), (6, .box 44 ((qC (facAt M j)).map V.d)), (100, .data 33 1 eQ [] (mAt M j)), (101, .data 3 1 (eI .i64) 0 (upto j))])) (fun _ => True) (fun _ => 0) () trivial ⟨rfl, rfl, rfl, rfl, rfl, iv (by omega), iv (by omega), rfl⟩ ⟨rfl, rfl, rfl, rfl, trivial⟩ (fun _ _ => ?_)
    repeat' (first
      | (show awpL _ _ _ _ _; first | refine goL ?_ | refine cl 21 tt rfl rfl rfl (hr := hsg) (k := ?_) | refine cl 20 tt rfl rfl rfl (hr := hmul) (k := ?_) | refine cl 19 tt rfl rfl rfl (hr := hf1) (k := ?_) | refine cl 77 tt rfl rfl rfl (hr := hquo) (k := ?_) | refine cl 76 tt rfl rfl rfl (hr := htim) (k := ?_) | (refine gdLD rfl rfl (fun _ => ?_) (fun _ => ?_) <;> try (exfalso; omega)) | (refine gdLN rfl rfl (fun _ => ?_) (fun _ => ?_) <;> try (exfalso; omega)) | refine gdL rfl rfl (fun _ => ?_) (fun _ => ?_))
      | (show awp _ _ _ _; first | refine goA ?_ | refine awp_reg 15 8 mixed (by kernel_rfl) ?_ | refine awp_reg 16 16 mixed (by kernel_rfl) ?_ | refine awp_reg 21 20 mixed (by kernel_rfl) ?_ | refine awp_reg 23 5 mixed (by kernel_rfl) ?_ | (refine awp_condD rfl (fun _ => ?_) (fun _ => ?_) <;> try (exfalso; omega)) | (refine awp_condN rfl (fun _ => ?_) (fun _ => ?_) <;> try (exfalso; omega)) | refine awp_cond rfl (fun _ => ?_) (fun _ => ?_))
      | (show andThen _ _ _ _; first | refine goN ?_)
      | (show inBlock _ _ _ _; first | refine goB ?_)
      | (show awpR _ _ _ _ _ _; first | refine goR ?_ | refine clR 21 tt rfl rfl rfl (hr := hsg) (k := ?_) | refine clR 20 tt rfl rfl rfl (hr := hmul) (k := ?_) | refine clR 19 tt rfl rfl rfl (hr := hf1) (k := ?_) | refine clR 77 tt rfl rfl rfl (hr := hquo) (k := ?_) | refine clR 76 tt rfl rfl rfl (hr := htim) (k := ?_) | (refine gdRD rfl rfl (fun _ => ?_) (fun _ => ?_) <;> try (exfalso; omega)) | (refine gdRN rfl rfl (fun _ => ?_) (fun _ => ?_) <;> try (exfalso; omega)) | refine gdR rfl rfl (fun _ => ?_) (fun _ => ?_))
      | (show retPost _ _ _ _ _; first | refine finF true rfl rfl sc ?_ | refine finF false rfl rfl sc ?_ | refine finN rfl rfl sc ?_ | refine finL true rfl rfl sc rfl (LeR.cons rfl leL LeR.nil) ?_ | refine finE true rfl rfl sc ?_ | refine finE false rfl rfl sc ?_))
    generalize hS : scaleQ (mAt M j) j = S at *
    refine awp_loop1 (fun (i : Nat) => ([(0, .own 100 0 n 33 1), (4, .ptr 4 0), (5, .own 101 0 (upto j).length 3 1), (6, .ptr 6 0), (7, .d (.int .i64 j)), (8, .d (.int .i64 j)), (10, .d (.int .i64 i))], [(4, .box 44 [.d (.bool false), .d .nils, .d .nils]), (6, .box 44 ((qC (facAt M (j + 1))).map V.d)), (100, .data 33 1 eQ [] (elimI S j i)), (101, .data 3 1 (eI .i64) 0 (upto j))])) (fun i => i ≤ n) (fun i => n - i) 0 (by omega) ⟨rfl, rfl, rfl, rfl, rfl, iv (by omega), rfl, rfl⟩ ⟨rfl, rfl, by rw [elimI_zero, ← hS]; rfl, rfl, trivial⟩ (fun i hi => ?_)
    have hel := elimI_len (m := S) (j := j) (i := i) (by omega)
    by_cases hin : i < n
    · have e1 := elimI_get_i (m := S) (j := j) (i := i) (by omega)
      have e2 := elimI_get_j (m := S) (j := j) (i := i) (by omega) (by omega)
      by_cases hij : i = j
      · subst hij
        repeat' (first
          | (show awpL _ _ _ _ _; first | refine goL ?_ | (refine gdLD rfl rfl (fun _ => ?_) (fun _ => ?_) <;> try (exfalso; omega)) | (refine gdLN rfl rfl (fun _ => ?_) (fun _ => ?_) <;> try (exfalso; omega)) | refine gdL rfl rfl (fun _ => ?_) (fun _ => ?_))
          | (show awp _ _ _ _; first | refine goA ?_ | refine awp_reg 15 8 mixed (by kernel_rfl) ?_ | refine awp_reg 16 16 mixed (by kernel_rfl) ?_ | refine awp_reg 21 20 mixed (by kernel_rfl) ?_ | refine awp_reg 23 5 mixed (by kernel_rfl) ?_ | (refine awp_condD rfl (fun _ => ?_) (fun _ => ?_) <;> try (exfalso; omega)) | (refine awp_condN rfl (fun _ => ?_) (fun _ => ?_) <;> try (exfalso; omega)) | refine awp_cond rfl (fun _ => ?_) (fun _ => ?_))
          | (show andThen _ _ _ _; first | refine goN ?_)
          | (show inBlock _ _ _ _; first | refine goB ?_)
          | (show awpR _ _ _ _ _ _; first | refine goR ?_ | (refine gdRD rfl rfl (fun _ => ?_) (fun _ => ?_) <;> try (exfalso; omega)) | (refine gdRN rfl rfl (fun _ => ?_) (fun _ => ?_) <;> try (exfalso; omega)) | refine gdR rfl rfl (fun _ => ?_) (fun _ => ?_))
          | (show retPost _ _ _ _ _; first | refine finF true rfl rfl sc ?_ | refine finF false rfl rfl sc ?_ | refine finN rfl rfl sc ?_ | refine finL true rfl rfl sc rfl (LeR.cons rfl leL LeR.nil) ?_ | refine finE true rfl rfl sc ?_ | refine finE false rfl rfl sc ?_))
        refine ⟨i + 1, by omega, by omega, ⟨rfl, rfl, rfl, rfl, rfl, rfl, iv (by omega), rfl⟩, rfl, rfl, ?_, rfl, trivial⟩
        rw [elimI_keep (by omega)]; rfl
      · have hsm := hg2.at2 hin h3
        have hneg := ref03_NegQ (at2 S i j) hsm.ok
        have hti := ref06_Times (S.getD j []) (-at2 S i j) (by rw [hg2.row j h3]; omega) (fun q hq => (hg2.small j h3 q hq).ok) hsm.neg.ok
        have hpl := ref06_Plus (S.getD i []) (timesQ (S.getD j []) (-at2 S i j)) (by rw [hg2.row i hin]; omega) (by rw [hg2.row i hin]; simp only [timesQ, List.length_map]; exact hg2.row j h3) (fun q hq => (hg2.small i hin q hq).ok) (fun q hq => by
          simp only [timesQ, List.mem_map] at hq
          obtain ⟨p, hp, rfl⟩ := hq
          exact (hg2.small j h3 p hp).mul hsm.neg)
        have hr1 := hg2.row i hin
        have hes := elimI_set (m := S) (j := j) (i := i) (by omega)
        rw [elimRow, if_neg hij] at hes
        unfold at2 at hneg hti hpl hes
        rw [← e1] at hneg hpl hti hr1
        rw [← e2] at hti hpl
        rw [← e1, ← e2] at hes
        repeat' (first
          | (show awpL _ _ _ _ _; first | refine goL ?_ | refine cl 75 tt rfl rfl rfl (hr := hneg) (k := ?_) | refine cl 76 tt rfl rfl rfl (hr := hti) (k := ?_) | refine cl 78 tt rfl rfl rfl (hr := hpl) (k := ?_) | (refine gdLD rfl rfl (fun _ => ?_) (fun _ => ?_) <;> try (exfalso; omega)) | (refine gdLN rfl rfl (fun _ => ?_) (fun _ => ?_) <;> try (exfalso; omega)) | refine gdL rfl rfl (fun _ => ?_) (fun _ => ?_))
          | (show awp _ _ _ _; first | refine goA ?_ | refine awp_reg 15 8 mixed (by kernel_rfl) ?_ | refine awp_reg 16 16 mixed (by kernel_rfl) ?_ | refine awp_reg 21 20 mixed (by kernel_rfl) ?_ | refine awp_reg 23 5 mixed (by kernel_rfl) ?_ | (refine awp_condD rfl (fun _ => ?_) (fun _ => ?_) <;> try (exfalso; omega)) | (refine awp_condN rfl (fun _ => ?_) (fun _ => ?_) <;> try (exfalso; omega)) | refine awp_cond rfl (fun _ => ?_) (fun _ => ?_))
          | (show andThen _ _ _ _; first | refine goN ?_)
          | (show inBlock _ _ _ _; first | refine goB ?_)
          | (show awpR _ _ _ _ _ _; first | refine goR ?_ | refine clR 75 tt rfl rfl rfl (hr := hneg) (k := ?_) | refine clR 76 tt rfl rfl rfl (hr := hti) (k := ?_) | refine clR 78 tt rfl rfl rfl (hr := hpl) (k := ?_) | (refine gdRD rfl rfl (fun _ => ?_) (fun _ => ?_) <;> try (exfalso; omega)) | (refine gdRN rfl rfl (fun _ => ?_) (fun _ => ?_) <;> try (exfalso; omega)) | refine gdR rfl rfl (fun _ => ?_) (fun _ => ?_))
          | (show retPost _ _ _ _ _; first | refine finF true rfl rfl sc ?_ | refine finF false rfl rfl sc ?_ | refine finN rfl rfl sc ?_ | refine finL true rfl rfl sc rfl (LeR.cons rfl leL LeR.nil) ?_ | refine finE true rfl rfl sc ?_ | refine finE false rfl rfl sc ?_))
        refine ⟨i + 1, by omega, by omega, ⟨rfl, rfl, rfl, rfl, rfl, rfl, iv (by omega), rfl⟩, rfl, rfl, ?_, rfl, trivial⟩
        rw [← hes]; rfl
    · have hin : i = n := by omega
      subst hin
      repeat' (first
        | (show awpL _ _ _ _ _; first | refine goL ?_ | (refine gdLD rfl rfl (fun _ => ?_) (fun _ => ?_) <;> try (exfalso; omega)) | (refine gdLN rfl rfl (fun _ => ?_) (fun _ => ?_) <;> try (exfalso; omega)) | refine gdL rfl rfl (fun _ => ?_) (fun _ => ?_))
        | (show awp _ _ _ _; first | refine goA ?_ | refine awp_reg 15 8 mixed (by kernel_rfl) ?_ | refine awp_reg 16 16 mixed (by kernel_rfl) ?_ | refine awp_reg 21 20 mixed (by kernel_rfl) ?_ | refine awp_reg 23 5 mixed (by kernel_rfl) ?_ | (refine awp_condD rfl (fun _ => ?_) (fun _ => ?_) <;> try (exfalso; omega)) | (refine awp_condN rfl (fun _ => ?_) (fun _ => ?_) <;> try (exfalso; omega)) | refine awp_cond rfl (fun _ => ?_) (fun _ => ?_))
        | (show andThen _ _ _ _; first | refine goN ?_)
        | (show inBlock _ _ _ _; first | refine goB ?_)
        | (show awpR _ _ _ _ _ _; first | refine goR ?_ | (refine gdRD rfl rfl (fun _ => ?_) (fun _ => ?_) <;> try (exfalso; omega)) | (refine gdRN rfl rfl (fun _ => ?_) (fun _ => ?_) <;> try (exfalso; omega)) | refine gdR rfl rfl (fun _ => ?_) (fun _ => ?_))
        | (show retPost _ _ _ _ _; first | refine finF true rfl rfl sc ?_ | refine finF false rfl rfl sc ?_ | refine finN rfl rfl sc ?_ | refine finL true rfl rfl sc rfl (LeR.cons rfl leL LeR.nil) ?_ | refine finE true rfl rfl sc ?_ | refine finE false rfl rfl sc ?_))
      have hr : elimI S j i = mAt M (j + 1) := by rw [mAt, redQ, hS, hg.len]
      refine ⟨j + 1, by omega, by omega, ⟨rfl, rfl, by rw [← upto_succ]; rfl, rfl, iv (by omega), rfl⟩, rfl, rfl, ?_, by rw [← upto_succ]; rfl, trivial⟩
      rw [← hr]; rfl
  · have : j = n := by omega
    subst this
    repeat' (first
      | (show awpL _ _ _ _ _; first | refine goL ?_ | refine cl 74 tt rfl rfl rfl (hr := hcol) (k := ?_) | (refine gdLD rfl rfl (fun _ => ?_) (fun _ => ?_) <;> try (exfalso; omega)) | (refine gdLN rfl rfl (fun _ => ?_) (fun _ => ?_) <;> try (exfalso; omega)) | refine gdL rfl rfl (fun _ => ?_) (fun _ => ?_))
      | (show awp _ _ _ _; first | refine goA ?_ | refine awp_reg 15 8 mixed (by kernel_rfl) ?_ | refine awp_reg 16 16 mixed (by kernel_rfl) ?_ | refine awp_reg 21 20 mixed (by kernel_rfl) ?_ | refine awp_reg 23 5 mixed (by kernel_rfl) ?_ | (refine awp_condD rfl (fun _ => ?_) (fun _ => ?_) <;> try (exfalso; omega)) | (refine awp_condN rfl (fun _ => ?_) (fun _ => ?_) <;> try (exfalso; omega)) | refine awp_cond rfl (fun _ => ?_) (fun _ => ?_))
      | (show andThen _ _ _ _; first | refine goN ?_)
      | (show inBlock _ _ _ _; first | refine goB ?_)
      | (show awpR _ _ _ _ _ _; first | refine goR ?_ | refine clR 74 tt rfl rfl rfl (hr := hcol) (k := ?_) | (refine gdRD rfl rfl (fun _ => ?_) (fun _ => ?_) <;> try (exfalso; omega)) | (refine gdRN rfl rfl (fun _ => ?_) (fun _ => ?_) <;> try (exfalso; omega)) | refine gdR rfl rfl (fun _ => ?_) (fun _ => ?_))
      | (show retPost _ _ _ _ _; first | refine finF true rfl rfl sc ?_ | refine finF false rfl rfl sc ?_ | refine finN rfl rfl sc ?_ | refine finL true rfl rfl sc rfl (LeR.cons rfl leL LeR.nil) ?_ | refine finE true rfl rfl sc ?_ | refine finE false rfl rfl sc ?_))
    rfl
theorem ref06_Reduce (m : List (List R3)) (n : Nat) (hn : 1 ≤ n) (hn' : n ≤ 96) (hl : m.length = n) (hr : ∀ i, i < n → (m.getD i []).length = n) (hm : ∀ l ∈ m, l.length < 1000000000 ∧ ∀ r ∈ l, RatOk r 10000000) (h : RunOk n (rvM m)) : Ret Tryd.prog 33 [rssD m] (· = .tup [qssD (mAt (rvM m) n), i64s (upto n), .int .i64 0]) := by
  have h1 := ref06_Formed m n hn hn' hl hr
  have h2 := ref06_reduce m n hn hn' hl hm h
  refine ret_of_awp tab Tryd.func33 rfl rfl (Nat.le_of_ble_eq_true rfl) (fun w0 F0 => ?_)
  repeat' (first
    | (show awpL _ _ _ _ _; first | refine goL ?_ | refine cl 55 tt rfl rfl rfl (hr := h1) (k := ?_) | refine cl 56 tt rfl rfl rfl (hr := h2) (k := ?_) | (refine gdLD rfl rfl (fun _ => ?_) (fun _ => ?_) <;> try (exfalso; omega)) | (refine gdLN rfl rfl (fun _ => ?_) (fun _ => ?_) <;> try (exfalso; omega)) | refine gdL rfl rfl (fun _ => ?_) (fun _ => ?_))
    | (show awp _ _ _ _; first | refine goA ?_ | (refine awp_condD rfl (fun _ => ?_) (fun _ => ?_) <;> try (exfalso; omega)) | (refine awp_condN rfl (fun _ => ?_) (fun _ => ?_) <;> try (exfalso; omega)) | refine awp_cond rfl (fun _ => ?_) (fun _ => ?_))
    | (show andThen _ _ _ _; first | refine goN ?_)
    | (show inBlock _ _ _ _; first | refine goB ?_)
    | (show awpR _ _ _ _ _ _; first | refine goR ?_ | refine clR 55 tt rfl rfl rfl (hr := h1) (k := ?_) | refine clR 56 tt rfl rfl rfl (hr := h2) (k := ?_) | (refine gdRD rfl rfl (fun _ => ?_) (fun _ => ?_) <;> try (exfalso; omega)) | (refine gdRN rfl rfl (fun _ => ?_) (fun _ => ?_) <;> try (exfalso; omega)) | refine gdR rfl rfl (fun _ => ?_) (fun _ => ?_))
    | (show retPost _ _ _ _ _; first | refine finF true rfl rfl sc ?_ | refine finF false rfl rfl sc ?_ | refine finN rfl rfl sc ?_ | refine finL true rfl rfl sc rfl (LeR.cons rfl leL LeR.nil) ?_ | refine finE true rfl rfl sc ?_ | refine finE false rfl rfl sc ?_))
  rfl
theorem ref06_Rank (m : List (List R3)) (n : Nat) (hn : 1 ≤ n) (hn' : n ≤ 96) (hl : m.length = n) (hr : ∀ i, i < n → (m.getD i []).length = n) (hm : ∀ l ∈ m, l.length < 1000000000 ∧ ∀ r ∈ l, RatOk r 10000000) (h : RunOk n (rvM m)) : Ret Tryd.prog 15 [rssD m] (· = .tup [.int .i64 n, .int .i64 0]) := by
  have h1 := ref06_Reduce m n hn hn' hl hr hm h
  refine ret_of_awp tab Tryd.func15 rfl rfl (Nat.le_of_ble_eq_true rfl) (fun w0 F0 => ?_)
  repeat' (first
    | (show awpL _ _ _ _ _; first | refine goL ?_ | refine cl 33 tt rfl rfl rfl (hr := h1) (k := ?_) | (refine gdLD rfl rfl (fun _ => ?_) (fun _ => ?_) <;> try (exfalso; omega)) | (refine gdLN rfl rfl (fun _ => ?_) (fun _ => ?_) <;> try (exfalso; omega)) | refine gdL rfl rfl (fun _ => ?_) (fun _ => ?_))
    | (show awp _ _ _ _; first | refine goA ?_ | (refine awp_condD rfl (fun _ => ?_) (fun _ => ?_) <;> try (exfalso; omega)) | (refine awp_condN rfl (fun _ => ?_) (fun _ => ?_) <;> try (exfalso; omega)) | refine awp_cond rfl (fun _ => ?_) (fun _ => ?_))
    | (show andThen _ _ _ _; first | refine goN ?_)
    | (show inBlock _ _ _ _; first | refine goB ?_)
    | (show awpR _ _ _ _ _ _; first | refine goR ?_ | refine clR 33 tt rfl rfl rfl (hr := h1) (k := ?_) | (refine gdRD rfl rfl (fun _ => ?_) (fun _ => ?_) <;> try (exfalso; omega)) | (refine gdRN rfl rfl (fun _ => ?_) (fun _ => ?_) <;> try (exfalso; omega)) | refine gdR rfl rfl (fun _ => ?_) (fun _ => ?_))
    | (show retPost _ _ _ _ _; first | refine finF true rfl rfl sc ?_ | refine finF false rfl rfl sc ?_ | refine finN rfl rfl sc ?_ | refine finL true rfl rfl sc rfl (LeR.cons rfl leL LeR.nil) ?_ | refine finE true rfl rfl sc ?_ | refine finE false rfl rfl sc ?_))
  rw [upto_len]
theorem law11_with (m : List (List R3)) (hl : m.length < 1000000) (hr : ∀ l ∈ m, l.length < 1000000) : Ret Tryd.prog 14 [rssD m] (· = rssD (m.map (zR 1 :: ·))) := by
  have hf := ref03_FromInt 1 (by omega) (by omega)
  refine ret_of_awp tab Tryd.func14 rfl rfl (Nat.le_of_ble_eq_true rfl) (fun w0 F0 => ?_)
  repeat' (first
    | (show awpL _ _ _ _ _; first | refine goL ?_ | (refine gdLD rfl rfl (fun _ => ?_) (fun _ => ?_) <;> try (exfalso; omega)) | (refine gdLN rfl rfl (fun _ => ?_) (fun _ => ?_) <;> try (exfalso; omega)) | refine gdL rfl rfl (fun _ => ?_) (fun _ => ?_))
    | (show awp _ _ _ _; first | refine goA ?_ | refine awp_reg 5 9 mixed (by kernel_rfl) ?_ | (refine awp_condD rfl (fun _ => ?_) (fun _ => ?_) <;> try (exfalso; omega)) | (refine awp_condN rfl (fun _ => ?_) (fun _ => ?_) <;> try (exfalso; omega)) | refine awp_cond rfl (fun _ => ?_) (fun _ => ?_))
    | (show andThen _ _ _ _; first | refine goN ?_)
    | (show inBlock _ _ _ _; first | refine goB ?_)
    | (show awpR _ _ _ _ _ _; first | refine goR ?_ | (refine gdRD rfl rfl (fun _ => ?_) (fun _ => ?_) <;> try (exfalso; omega)) | (refine gdRN rfl rfl (fun _ => ?_) (fun _ => ?_) <;> try (exfalso; omega)) | refine gdR rfl rfl (fun _ => ?_) (fun _ => ?_))
    | (show retPost _ _ _ _ _; first | refine finF true rfl rfl sc ?_ | refine finF false rfl rfl sc ?_ | refine finN rfl rfl sc ?_ | refine finL true rfl rfl sc rfl (LeR.cons rfl leL LeR.nil) ?_ | refine finE true rfl rfl sc ?_ | refine finE false rfl rfl sc ?_))
  refine awp_adopt 3 100 33 1 eR [] rfl ?_
  refine awp_loop1 (fun (i : Nat) => ([(0, .d (rssD m)), (3, .own 100 0 ((m.map (zR 1 :: ·)).take i).length 33 1), (4, .d (.int .i64 i))], [(100, .data 33 1 eR [] ((m.map (zR 1 :: ·)).take i))])) (fun i => i ≤ m.length) (fun i => m.length - i) 0 (by omega) ⟨rfl, rfl, rfl, rfl⟩ ⟨rfl, trivial⟩ (fun i hi => ?_)
  have hlen : ((m.map (zR 1 :: ·)).take i).length = i := by simp; omega
  by_cases h3 : i < m.length
  · have g1 : m.getD i [] ∈ m := by rw [List.getD, List.getElem?_eq_getElem h3]; exact List.getElem_mem h3
    have g2 := hr _ g1
    have e : (m.map (zR 1 :: ·)).take i ++ [zR 1 :: m.getD i []] = (m.map (zR 1 :: ·)).take (i + 1) := by
      rw [List.take_add_one]
      simp [h3, List.getD, List.getElem?_eq_getElem h3]
    repeat' (first
      | (show awpL _ _ _ _ _; first | refine goL ?_ | refine cl 19 tt rfl rfl rfl (hr := hf) (k := ?_) | (refine gdLD rfl rfl (fun _ => ?_) (fun _ => ?_) <;> try (exfalso; omega)) | (refine gdLN rfl rfl (fun _ => ?_) (fun _ => ?_) <;> try (exfalso; omega)) | refine gdL rfl rfl (fun _ => ?_) (fun _ => ?_))
      | (show awp _ _ _ _; first | refine goA ?_ | refine awp_reg 5 9 mixed (by kernel_rfl) ?_ | (refine awp_condD rfl (fun _ => ?_) (fun _ => ?_) <;> try (exfalso; omega)) | (refine awp_condN rfl (fun _ => ?_) (fun _ => ?_) <;> try (exfalso; omega)) | refine awp_cond rfl (fun _ => ?_) (fun _ => ?_))
      | (show andThen _ _ _ _; first | refine goN ?_)
      | (show inBlock _ _ _ _; first | refine goB ?_)
      | (show awpR _ _ _ _ _ _; first | refine goR ?_ | refine clR 19 tt rfl rfl rfl (hr := hf) (k := ?_) | (refine gdRD rfl rfl (fun _ => ?_) (fun _ => ?_) <;> try (exfalso; omega)) | (refine gdRN rfl rfl (fun _ => ?_) (fun _ => ?_) <;> try (exfalso; omega)) | refine gdR rfl rfl (fun _ => ?_) (fun _ => ?_))
      | (show retPost _ _ _ _ _; first | refine finF true rfl rfl sc ?_ | refine finF false rfl rfl sc ?_ | refine finN rfl rfl sc ?_ | refine finL true rfl rfl sc rfl (LeR.cons rfl leL LeR.nil) ?_ | refine finE true rfl rfl sc ?_ | refine finE false rfl rfl sc ?_))
    exact ⟨i + 1, by omega, by omega, ⟨rfl, by rw [← e]; rfl, iv (by omega), rfl⟩, by rw [← e]; rfl, trivial⟩
  · have : i = m.length := by omega
    subst this
    repeat' (first
      | (show awpL _ _ _ _ _; first | refine goL ?_ | (refine gdLD rfl rfl (fun _ => ?_) (fun _ => ?_) <;> try (exfalso; omega)) | (refine gdLN rfl rfl (fun _ => ?_) (fun _ => ?_) <;> try (exfalso; omega)) | refine gdL rfl rfl (fun _ => ?_) (fun _ => ?_))
      | (show awp _ _ _ _; first | refine goA ?_ | refine awp_reg 5 9 mixed (by kernel_rfl) ?_ | (refine awp_condD rfl (fun _ => ?_) (fun _ => ?_) <;> try (exfalso; omega)) | (refine awp_condN rfl (fun _ => ?_) (fun _ => ?_) <;> try (exfalso; omega)) | refine awp_cond rfl (fun _ => ?_) (fun _ => ?_))
      | (show andThen _ _ _ _; first | refine goN ?_)
      | (show inBlock _ _ _ _; first | refine goB ?_)
      | (show awpR _ _ _ _ _ _; first | refine goR ?_ | (refine gdRD rfl rfl (fun _ => ?_) (fun _ => ?_) <;> try (exfalso; omega)) | (refine gdRN rfl rfl (fun _ => ?_) (fun _ => ?_) <;> try (exfalso; omega)) | refine gdR rfl rfl (fun _ => ?_) (fun _ => ?_))
      | (show retPost _ _ _ _ _; first | refine finF true rfl rfl sc ?_ | refine finF false rfl rfl sc ?_ | refine finN rfl rfl sc ?_ | refine finL true rfl rfl sc rfl (LeR.cons rfl leL LeR.nil) ?_ | refine finE true rfl rfl sc ?_ | refine finE false rfl rfl sc ?_))
    rw [List.take_of_length_le (by simp)]
end Go.Proofs.YtcblkjmnigbiiaaDoor
