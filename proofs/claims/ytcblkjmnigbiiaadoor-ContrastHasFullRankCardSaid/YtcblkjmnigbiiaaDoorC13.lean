/-
  Contracts of functions of the program, walked with the abstract layer. Conditions: as each says.
-/
import Derived.Test.YtcblkjmnigbiiaaDoorC12
import Derived.Test.YtcblkjmnigbiiaaDoorC06
import Derived.Test.YtcblkjmnigbiiaaDoorRankM
set_option linter.unusedVariables false
set_option linter.unusedSimpArgs false
namespace Go.Proofs.YtcblkjmnigbiiaaDoor
open Go.Vw
attribute [local irreducible] awp awpL awpR

theorem rv_int (z : Int) : rv (zR z) = z := by rw [← rq_int, rv_rq]
theorem rankR_rv (c n : Nat) (h1 : 1 ≤ n) : rvM (rankR c n) = rankM c n := by
  unfold rankR rankM rvM matZ rowZ colsZ
  by_cases h : c = 4
  · subst h
    simp only [List.map_map]
    rw [if_pos (by rfl)]
    simp [List.map_map, Function.comp_def, rv_int]
  · have h' : ¬ ((c : Int) = 4) := by omega
    simp only [h, h', if_false, List.map_map]
    rw [show ((n : Int) - 1).toNat = n - 1 by omega]
    simp [Function.comp_def, rv_int, List.map_map]
theorem ratOk_int {z : Int} (h : z.natAbs < 4294967296) : RatOk (zR z) 10000000 := by
  refine ⟨wf_limbs _, ?_, Nat.lt_of_le_of_lt (len_small h) (by decide), by show ([] : List Nat).length < _; decide⟩
  intro x hx
  cases hx
theorem rankR_ok (c n : Int) (h1 : 1 ≤ c) (h2 : c ≤ 4) (h3 : 1 ≤ n) (h4 : n ≤ 12) : (rankR c n).length = n.toNat ∧ ∀ l ∈ rankR c n, l.length = n.toNat ∧ ∀ r ∈ l, RatOk r 10000000 := by
  have hrow : ∀ (i : Nat), i < n.toNat → ∀ r ∈ rowZ c n i (colsZ c n).toNat, RatOk r 10000000 := fun i hi r hr => by
    simp only [rowZ, List.mem_map, List.mem_range] at hr
    obtain ⟨j, hj, rfl⟩ := hr
    have hcol : 0 ≤ colsZ c n ∧ colsZ c n ≤ 12 := by unfold colsZ; split <;> omega
    have := entryZ_bound (c := c) (n := n) (i := i) (j := j) (by omega) (by omega) (by omega) (by omega)
    exact ratOk_int (by omega)
  have hcol : (colsZ c n).toNat = if c = 4 then n.toNat else n.toNat - 1 := by unfold colsZ; split <;> omega
  unfold rankR
  by_cases h : c = 4
  · rw [if_pos h]
    rw [if_pos h] at hcol
    refine ⟨matZ_length _ _ _, fun l hl => ?_⟩
    simp only [matZ, List.mem_map, List.mem_range] at hl
    obtain ⟨i, hi, rfl⟩ := hl
    exact ⟨by rw [rowZ_length]; exact hcol, hrow i hi⟩
  · rw [if_neg h]
    rw [if_neg h] at hcol
    refine ⟨by rw [List.length_map, matZ_length], fun l hl => ?_⟩
    simp only [matZ, List.mem_map, List.mem_range] at hl
    obtain ⟨l', ⟨i, hi, rfl⟩, rfl⟩ := hl
    refine ⟨by rw [List.length_cons, rowZ_length]; omega, fun r hr => ?_⟩
    rcases List.mem_cons.1 hr with rfl | hr
    · exact ratOk_int (by decide)
    · exact hrow i hi r hr
theorem rank_true (a b : Nat) (ha : a < 256) (hb : b < 256) : Ret Tryd.prog 5 [.int .u8 a, .int .u8 b] (· = .bool true) := by
  obtain ⟨c, hc⟩ : ∃ c : Nat, 1 + a % 4 = c := ⟨_, rfl⟩
  obtain ⟨n, hn⟩ : ∃ n : Nat, 1 + b % 12 = n := ⟨_, rfl⟩
  have c1 : 1 ≤ c ∧ c ≤ 4 := by omega
  have n1 : 1 ≤ n ∧ n ≤ 12 := by omega
  have h1 := contrast_Matrix c n
  have hco : codingOk c n = true := by unfold codingOk; simp; omega
  unfold matD at h1
  rw [if_pos hco, Int.toNat_natCast] at h1
  obtain ⟨o1, o2⟩ := rankR_ok c n (by omega) (by omega) (by omega) (by omega)
  rw [Int.toNat_natCast] at o1 o2
  have o3 : ∀ i, i < n → ((rankR c n).getD i []).length = n := fun i hi => (o2 _ (by rw [List.getD_eq_getElem?_getD, List.getElem?_eq_getElem (by omega)]; exact List.getElem_mem _)).1
  have h2 := ref06_Rank (rankR c n) n (by omega) (by omega) o1 o3 (fun l hl => ⟨by have := (o2 l hl).1; omega, (o2 l hl).2⟩) (by rw [rankR_rv c n (by omega)]; exact rankM_ok c n (by omega) (by omega) (by omega) (by omega))
  by_cases h4 : c = 4
  · subst h4
    have e : rankR (4 : Nat) n = matZ (4 : Nat) n n := by unfold rankR; rw [if_pos (by rfl), Int.toNat_natCast]
    rw [e] at h2
    have ha4 : (1 : Int) + (a : Int) % 4 = 4 := by omega
    refine ret_of_awp tab Tryd.func5 rfl rfl (Nat.le_of_ble_eq_true rfl) (fun w0 F0 => ?_)
    repeat' (first
      | (show awpL _ _ _ _ _; first | refine goL ?_ | refine cl 7 tt rfl rfl rfl (hr := h1) (k := ?_) | refine cl 15 tt rfl rfl rfl (hr := h2) (k := ?_) | refine cl 9 tt rfl rfl rfl (hr := awake_true) (k := ?_) | (refine gdLD rfl rfl (fun _ => ?_) (fun _ => ?_) <;> try (exfalso; omega)) | (refine gdLN rfl rfl (fun _ => ?_) (fun _ => ?_) <;> try (exfalso; omega)) | refine gdL rfl rfl (fun _ => ?_) (fun _ => ?_))
      | (show awp _ _ _ _; first | refine goA ?_ | (refine awp_condD rfl (fun _ => ?_) (fun _ => ?_) <;> try (exfalso; omega)) | (refine awp_condN rfl (fun _ => ?_) (fun _ => ?_) <;> try (exfalso; omega)) | refine awp_cond rfl (fun _ => ?_) (fun _ => ?_))
      | (show andThen _ _ _ _; first | refine goN ?_)
      | (show inBlock _ _ _ _; first | refine goB ?_)
      | (show awpR _ _ _ _ _ _; first | refine goR ?_ | refine clR 7 tt rfl rfl rfl (hr := h1) (k := ?_) | refine clR 15 tt rfl rfl rfl (hr := h2) (k := ?_) | refine clR 9 tt rfl rfl rfl (hr := awake_true) (k := ?_) | (refine gdRD rfl rfl (fun _ => ?_) (fun _ => ?_) <;> try (exfalso; omega)) | (refine gdRN rfl rfl (fun _ => ?_) (fun _ => ?_) <;> try (exfalso; omega)) | refine gdR rfl rfl (fun _ => ?_) (fun _ => ?_))
      | (show retPost _ _ _ _ _; first | refine finF true rfl rfl sc ?_ | refine finF false rfl rfl sc ?_ | refine finN rfl rfl sc ?_ | refine finL true rfl rfl sc rfl (LeR.cons rfl leL LeR.nil) ?_ | refine finE true rfl rfl sc ?_ | refine finE false rfl rfl sc ?_))
    rw [decide_eq_true (by omega)]
  · have e : rankR c n = (matZ c n n).map (zR 1 :: ·) := by unfold rankR; rw [if_neg (by omega), Int.toNat_natCast]
    rw [e] at h2
    have h3 := law11_with (matZ c n n) (by rw [matZ_length]; omega) (fun l hl => by
      simp only [matZ, List.mem_map, List.mem_range] at hl
      obtain ⟨i, hi, rfl⟩ := hl
      rw [rowZ_length]; unfold colsZ; split <;> omega)
    refine ret_of_awp tab Tryd.func5 rfl rfl (Nat.le_of_ble_eq_true rfl) (fun w0 F0 => ?_)
    repeat' (first
      | (show awpL _ _ _ _ _; first | refine goL ?_ | refine cl 7 tt rfl rfl rfl (hr := h1) (k := ?_) | refine cl 15 tt rfl rfl rfl (hr := h2) (k := ?_) | refine cl 14 tt rfl rfl rfl (hr := h3) (k := ?_) | refine cl 9 tt rfl rfl rfl (hr := awake_true) (k := ?_) | (refine gdLD rfl rfl (fun _ => ?_) (fun _ => ?_) <;> try (exfalso; omega)) | (refine gdLN rfl rfl (fun _ => ?_) (fun _ => ?_) <;> try (exfalso; omega)) | refine gdL rfl rfl (fun _ => ?_) (fun _ => ?_))
      | (show awp _ _ _ _; first | refine goA ?_ | (refine awp_condD rfl (fun _ => ?_) (fun _ => ?_) <;> try (exfalso; omega)) | (refine awp_condN rfl (fun _ => ?_) (fun _ => ?_) <;> try (exfalso; omega)) | refine awp_cond rfl (fun _ => ?_) (fun _ => ?_))
      | (show andThen _ _ _ _; first | refine goN ?_)
      | (show inBlock _ _ _ _; first | refine goB ?_)
      | (show awpR _ _ _ _ _ _; first | refine goR ?_ | refine clR 7 tt rfl rfl rfl (hr := h1) (k := ?_) | refine clR 15 tt rfl rfl rfl (hr := h2) (k := ?_) | refine clR 14 tt rfl rfl rfl (hr := h3) (k := ?_) | refine clR 9 tt rfl rfl rfl (hr := awake_true) (k := ?_) | (refine gdRD rfl rfl (fun _ => ?_) (fun _ => ?_) <;> try (exfalso; omega)) | (refine gdRN rfl rfl (fun _ => ?_) (fun _ => ?_) <;> try (exfalso; omega)) | refine gdR rfl rfl (fun _ => ?_) (fun _ => ?_))
      | (show retPost _ _ _ _ _; first | refine finF true rfl rfl sc ?_ | refine finF false rfl rfl sc ?_ | refine finN rfl rfl sc ?_ | refine finL true rfl rfl sc rfl (LeR.cons rfl leL LeR.nil) ?_ | refine finE true rfl rfl sc ?_ | refine finE false rfl rfl sc ?_))
    rw [decide_eq_true (by omega)]
end Go.Proofs.YtcblkjmnigbiiaaDoor
