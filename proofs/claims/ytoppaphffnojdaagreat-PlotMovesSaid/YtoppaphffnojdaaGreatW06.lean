/-
  A statement of the seat: what its contract is, and the claim. Conditions: as each says.
-/
import Derived.Test.YtoppaphffnojdaaGreatW05
import Derived.Test.YtoppaphffnojdaaGreatW02
import Derived.Test.YtoppaphffnojdaaGreatA10
set_option linter.unusedVariables false
set_option linter.unusedSimpArgs false
set_option maxHeartbeats 8000000
namespace Go.Proofs.YtoppaphffnojdaaGreat
open Go.Vw
attribute [local irreducible] awp awpL awpR

def chk (n : Nat) (lo hi : Rat) (w h : Int) : Int := if n < 1 ∨ 64 < n then 6 else if ¬ lo < hi ∨ w < 1 ∨ 100 < w ∨ h < 1 ∨ 50 < h then 1 else 0
theorem plot_check (vs : List R3) (lo hi : R3) (w h : Int) (hn : vs.length < 9223372036854775807) (hl : RatOk lo 100) (hh : RatOk hi 100) : Ret Tryz.prog 46 [rsD vs, rD lo, rD hi, .int .i64 w, .int .i64 h] (· = .int .i64 (chk vs.length (rv lo) (rv hi) w h)) := by
  have l1 := exact_Less lo hi (hl.up (by decide)) (hh.up (by decide))
  unfold chk
  by_cases c1 : vs.length < 1 ∨ 64 < vs.length
  · rw [if_pos c1]
    refine ret_of_awp tab Tryz.func46 rfl rfl (Nat.le_of_ble_eq_true rfl) (fun w0 F0 => ?_)
    repeat' (first
      | (show awpL _ _ _ _ _; first | refine goL ?_ | (refine gdLG ?_ ?_ <;> intro _ <;> try (exfalso; omega)))
      | (show awp _ _ _ _; first | refine goA ?_ | (refine cdG ?_ ?_ <;> intro _ <;> try (exfalso; omega)))
      | (show andThen _ _ _ _; refine goN ?_)
      | (show inBlock _ _ _ _; refine goB ?_)
      | (show retPost _ _ _ _ _; refine finG ?_)
      | (show retPostB _ _ _ _ _ _; first | refine finB rfl rfl ?_ ?_ | refine finBT rfl rfl rfl ?_ ?_))
    all_goals rfl
  rw [if_neg c1]
  by_cases c2 : rv lo < rv hi
  · rw [decide_eq_true c2] at l1
    by_cases c3 : w < 1 ∨ 100 < w ∨ h < 1 ∨ 50 < h
    · rw [if_pos (.inr c3)]
      refine ret_of_awp tab Tryz.func46 rfl rfl (Nat.le_of_ble_eq_true rfl) (fun w0 F0 => ?_)
      repeat' (first
        | (show awpL _ _ _ _ _; first | refine goL ?_ | refine cl 31 tt rfl rfl rfl (hr := l1) (k := ?_) | (refine gdLG ?_ ?_ <;> intro _ <;> try (exfalso; omega)))
        | (show awp _ _ _ _; first | refine goA ?_ | (refine cdG ?_ ?_ <;> intro _ <;> try (exfalso; omega)))
        | (show andThen _ _ _ _; refine goN ?_)
        | (show inBlock _ _ _ _; refine goB ?_)
        | (show retPost _ _ _ _ _; refine finG ?_)
        | (show retPostB _ _ _ _ _ _; first | refine finB rfl rfl ?_ ?_ | refine finBT rfl rfl rfl ?_ ?_))
      all_goals rfl
    · rw [if_neg (fun h => h.elim (fun h => h c2) c3)]
      refine ret_of_awp tab Tryz.func46 rfl rfl (Nat.le_of_ble_eq_true rfl) (fun w0 F0 => ?_)
      repeat' (first
        | (show awpL _ _ _ _ _; first | refine goL ?_ | refine cl 31 tt rfl rfl rfl (hr := l1) (k := ?_) | (refine gdLG ?_ ?_ <;> intro _ <;> try (exfalso; omega)))
        | (show awp _ _ _ _; first | refine goA ?_ | (refine cdG ?_ ?_ <;> intro _ <;> try (exfalso; omega)))
        | (show andThen _ _ _ _; refine goN ?_)
        | (show inBlock _ _ _ _; refine goB ?_)
        | (show retPost _ _ _ _ _; refine finG ?_)
        | (show retPostB _ _ _ _ _ _; first | refine finB rfl rfl ?_ ?_ | refine finBT rfl rfl rfl ?_ ?_))
      all_goals rfl
  · rw [decide_eq_false c2] at l1
    rw [if_pos (.inl c2)]
    refine ret_of_awp tab Tryz.func46 rfl rfl (Nat.le_of_ble_eq_true rfl) (fun w0 F0 => ?_)
    repeat' (first
      | (show awpL _ _ _ _ _; first | refine goL ?_ | refine cl 31 tt rfl rfl rfl (hr := l1) (k := ?_) | (refine gdLG ?_ ?_ <;> intro _ <;> try (exfalso; omega)))
      | (show awp _ _ _ _; first | refine goA ?_ | (refine cdG ?_ ?_ <;> intro _ <;> try (exfalso; omega)))
      | (show andThen _ _ _ _; refine goN ?_)
      | (show inBlock _ _ _ _; refine goB ?_)
      | (show retPost _ _ _ _ _; refine finG ?_)
      | (show retPostB _ _ _ _ _ _; first | refine finB rfl rfl ?_ ?_ | refine finBT rfl rfl rfl ?_ ?_))
    all_goals rfl
theorem ref40_check (vs : List R3) (lo hi : R3) (w h : Int) (hn : vs.length < 9223372036854775807) (hl : RatOk lo 100) (hh : RatOk hi 100) : Ret Tryz.prog 52 [rsD vs, rD lo, rD hi, .int .i64 w, .int .i64 h] (· = .int .i64 (chk vs.length (rv lo) (rv hi) w h)) := by
  have l1 := ref03_Compare lo hi (hl.up (by decide)) (hh.up (by decide))
  have hk := cmpQ_neg (rv lo) (rv hi)
  obtain ⟨k, e⟩ : ∃ k, cmpQ (rv lo) (rv hi) = k := ⟨_, rfl⟩
  rw [e] at l1 hk
  clear e
  unfold chk
  simp only [← hk]
  by_cases c1 : vs.length < 1 ∨ 64 < vs.length
  · rw [if_pos c1]
    refine ret_of_awp tab Tryz.func52 rfl rfl (Nat.le_of_ble_eq_true rfl) (fun w0 F0 => ?_)
    repeat' (first
      | (show awpL _ _ _ _ _; first | refine goL ?_ | (refine gdLG ?_ ?_ <;> intro _ <;> try (exfalso; omega)))
      | (show awp _ _ _ _; first | refine goA ?_ | (refine cdG ?_ ?_ <;> intro _ <;> try (exfalso; omega)))
      | (show andThen _ _ _ _; refine goN ?_)
      | (show inBlock _ _ _ _; refine goB ?_)
      | (show retPost _ _ _ _ _; refine finG ?_)
      | (show retPostB _ _ _ _ _ _; first | refine finB rfl rfl ?_ ?_ | refine finBT rfl rfl rfl ?_ ?_))
    all_goals rfl
  rw [if_neg c1]
  by_cases c3 : ¬ k < 0 ∨ w < 1 ∨ 100 < w ∨ h < 1 ∨ 50 < h
  · rw [if_pos c3]
    clear hk
    refine ret_of_awp tab Tryz.func52 rfl rfl (Nat.le_of_ble_eq_true rfl) (fun w0 F0 => ?_)
    repeat' (first
      | (show awpL _ _ _ _ _; first | refine goL ?_ | refine cl 20 tt rfl rfl rfl (hr := l1) (k := ?_) | (refine gdLG ?_ ?_ <;> intro _ <;> try (exfalso; omega)))
      | (show awp _ _ _ _; first | refine goA ?_ | (refine cdG ?_ ?_ <;> intro _ <;> try (exfalso; omega)))
      | (show andThen _ _ _ _; refine goN ?_)
      | (show inBlock _ _ _ _; refine goB ?_)
      | (show retPost _ _ _ _ _; refine finG ?_)
      | (show retPostB _ _ _ _ _ _; first | refine finB rfl rfl ?_ ?_ | refine finBT rfl rfl rfl ?_ ?_))
    all_goals rfl
  · rw [if_neg c3]
    clear hk
    refine ret_of_awp tab Tryz.func52 rfl rfl (Nat.le_of_ble_eq_true rfl) (fun w0 F0 => ?_)
    repeat' (first
      | (show awpL _ _ _ _ _; first | refine goL ?_ | refine cl 20 tt rfl rfl rfl (hr := l1) (k := ?_) | (refine gdLG ?_ ?_ <;> intro _ <;> try (exfalso; omega)))
      | (show awp _ _ _ _; first | refine goA ?_ | (refine cdG ?_ ?_ <;> intro _ <;> try (exfalso; omega)))
      | (show andThen _ _ _ _; refine goN ?_)
      | (show inBlock _ _ _ _; refine goB ?_)
      | (show retPost _ _ _ _ _; refine finG ?_)
      | (show retPostB _ _ _ _ _ _; first | refine finB rfl rfl ?_ ?_ | refine finBT rfl rfl rfl ?_ ?_))
    all_goals rfl
theorem plot_counts (vs : List R3) (lo hi : R3) (c : Nat) (hn : vs.length < 1000000) (hvs : ∀ r ∈ vs, RatOk r 100) (hl : RatOk lo 100) (hh : RatOk hi 100) (hc : c ≤ 1000) : Ret Tryz.prog 48 [rsD vs, rD lo, rD hi, .int .i64 c] (· = i64s (countsZ (rv lo) (rv hi) c (vs.map rv))) := by
  refine ret_of_awp tab Tryz.func48 rfl rfl (Nat.le_of_ble_eq_true rfl) (fun w0 F0 => ?_)
  repeat' (first
    | (show awpL _ _ _ _ _; first | refine goL ?_ | (refine gdLG ?_ ?_ <;> intro _ <;> try (exfalso; omega)))
    | (show awp _ _ _ _; first | refine goA ?_ | (refine cdG ?_ ?_ <;> intro _ <;> try (exfalso; omega)))
    | (show andThen _ _ _ _; refine goN ?_)
    | (show inBlock _ _ _ _; refine goB ?_)
    | (show retPost _ _ _ _ _; refine finG ?_)
    | (show retPostB _ _ _ _ _ _; first | refine finB rfl rfl ?_ ?_ | refine finBT rfl rfl rfl ?_ ?_))
  refine awp_loop1 (fun (i : Nat) => ([(3, .d (.int .i64 c)), (5, .ptr 5 0), (6, .ptr 6 0), (9, .own 15 0 c 3 1), (16, .d (rsD vs)), (17, .d (.int .i64 vs.length)), (18, .d (.int .i64 i))], [(5, .box 27 ((rC lo).map V.d)), (6, .box 27 ((rC hi).map V.d)), (15, .data 3 1 (eI .i64) 0 (countsZ (rv lo) (rv hi) c ((vs.map rv).take i)))])) (fun i => i ≤ vs.length) (fun i => vs.length - i) 0 (by omega) ⟨rfl, rfl, rfl, rfl, rfl, rfl, rfl, rfl⟩ ⟨rfl, rfl, rfl, trivial⟩ (fun i hi' => ?_)
  have hlen := counts_len (rv lo) (rv hi) c ((vs.map rv).take i)
  rw [Int.toNat_natCast] at hlen
  by_cases h3 : i < vs.length
  · have hp := plot_Place (vs.getD i r0) lo hi c (getD_mem_R hvs h3) hl hh (by omega) (by omega)
    have ht := counts_take (rv lo) (rv hi) c (vs.map rv) (i := i) (by rw [List.length_map]; exact h3)
    rw [getD_map_rv h3] at ht
    have hb := counts_bd (rv lo) (rv hi) c ((vs.map rv).take i)
    rw [List.length_take, List.length_map] at hb
    unfold addC at ht
    generalize countsZ (rv lo) (rv hi) c ((vs.map rv).take i) = acc at *
    cases hk : okP (rv (vs.getD i r0)) (rv lo) (rv hi) c
    · rw [hk] at ht hp
      rw [if_neg (by decide)] at ht hp
      clear hb hk
      repeat' (first
        | (show awpL _ _ _ _ _; first | refine goL ?_ | refine cl 14 tt rfl rfl rfl (hr := hp) (k := ?_) | (refine gdLG ?_ ?_ <;> intro _ <;> try (exfalso; omega)))
        | (show awp _ _ _ _; first | refine goA ?_ | (refine cdG ?_ ?_ <;> intro _ <;> try (exfalso; omega)))
        | (show andThen _ _ _ _; refine goN ?_)
        | (show inBlock _ _ _ _; refine goB ?_)
        | (show retPost _ _ _ _ _; refine finG ?_)
        | (show retPostB _ _ _ _ _ _; first | refine finB rfl rfl ?_ ?_ | refine finBT rfl rfl rfl ?_ ?_))
      exact ⟨i + 1, by omega, by omega, ⟨rfl, rfl, rfl, rfl, rfl, rfl, iv (by omega), rfl⟩, rfl, rfl, by rw [ht]; rfl, trivial⟩
    · have hci := cell_in hk
      rw [hk] at ht hp
      rw [if_pos rfl] at ht hp
      have hlt : (cellZ (rv (vs.getD i r0)) (rv lo) (rv hi) c).toNat < acc.length := by omega
      have hg : 0 ≤ acc.getD (cellZ (rv (vs.getD i r0)) (rv lo) (rv hi) c).toNat 0 ∧ acc.getD (cellZ (rv (vs.getD i r0)) (rv lo) (rv hi) c).toNat 0 ≤ (min i vs.length : Nat) := by
        have := hb _ (List.getElem_mem hlt)
        rw [List.getD_eq_getElem?_getD, List.getElem?_eq_getElem hlt]
        exact this
      clear hb hk
      generalize cellZ (rv (vs.getD i r0)) (rv lo) (rv hi) c = z at *
      repeat' (first
        | (show awpL _ _ _ _ _; first | refine goL ?_ | refine cl 14 tt rfl rfl rfl (hr := hp) (k := ?_) | (refine gdLG ?_ ?_ <;> intro _ <;> try (exfalso; omega)))
        | (show awp _ _ _ _; first | refine goA ?_ | (refine cdG ?_ ?_ <;> intro _ <;> try (exfalso; omega)))
        | (show andThen _ _ _ _; refine goN ?_)
        | (show inBlock _ _ _ _; refine goB ?_)
        | (show retPost _ _ _ _ _; refine finG ?_)
        | (show retPostB _ _ _ _ _ _; first | refine finB rfl rfl ?_ ?_ | refine finBT rfl rfl rfl ?_ ?_))
      exact ⟨i + 1, by omega, by omega, ⟨rfl, rfl, rfl, rfl, rfl, rfl, iv (by omega), rfl⟩, rfl, rfl, by rw [ht]; rfl, trivial⟩
  · have e : (vs.map rv).take i = vs.map rv := List.take_of_length_le (by rw [List.length_map]; omega)
    rw [e] at hlen ⊢
    repeat' (first
      | (show awpL _ _ _ _ _; first | refine goL ?_ | (refine gdLG ?_ ?_ <;> intro _ <;> try (exfalso; omega)))
      | (show awp _ _ _ _; first | refine goA ?_ | (refine cdG ?_ ?_ <;> intro _ <;> try (exfalso; omega)))
      | (show andThen _ _ _ _; refine goN ?_)
      | (show inBlock _ _ _ _; refine goB ?_)
      | (show retPost _ _ _ _ _; refine finG ?_)
      | (show retPostB _ _ _ _ _ _; first | refine finB rfl rfl ?_ ?_ | refine finBT rfl rfl rfl ?_ ?_))
    all_goals rfl
theorem ref40_counts (vs : List R3) (lo hi : R3) (c : Nat) (hn : vs.length < 1000000) (hvs : ∀ r ∈ vs, RatOk r 100) (hl : RatOk lo 100) (hh : RatOk hi 100) (hc : c ≤ 1000) : Ret Tryz.prog 100 [rsD vs, rD lo, rD hi, .int .i64 c] (· = i64s (countsZ (rv lo) (rv hi) c (vs.map rv))) := by
  refine ret_of_awp tab Tryz.func100 rfl rfl (Nat.le_of_ble_eq_true rfl) (fun w0 F0 => ?_)
  repeat' (first
    | (show awpL _ _ _ _ _; first | refine goL ?_ | (refine gdLG ?_ ?_ <;> intro _ <;> try (exfalso; omega)))
    | (show awp _ _ _ _; first | refine goA ?_ | (refine cdG ?_ ?_ <;> intro _ <;> try (exfalso; omega)))
    | (show andThen _ _ _ _; refine goN ?_)
    | (show inBlock _ _ _ _; refine goB ?_)
    | (show retPost _ _ _ _ _; refine finG ?_)
    | (show retPostB _ _ _ _ _ _; first | refine finB rfl rfl ?_ ?_ | refine finBT rfl rfl rfl ?_ ?_))
  refine awp_loop1 (fun (i : Nat) => ([(3, .d (.int .i64 c)), (5, .ptr 5 0), (6, .ptr 6 0), (9, .own 15 0 c 3 1), (16, .d (rsD vs)), (17, .d (.int .i64 vs.length)), (18, .d (.int .i64 i))], [(5, .box 27 ((rC lo).map V.d)), (6, .box 27 ((rC hi).map V.d)), (15, .data 3 1 (eI .i64) 0 (countsZ (rv lo) (rv hi) c ((vs.map rv).take i)))])) (fun i => i ≤ vs.length) (fun i => vs.length - i) 0 (by omega) ⟨rfl, rfl, rfl, rfl, rfl, rfl, rfl, rfl⟩ ⟨rfl, rfl, rfl, trivial⟩ (fun i hi' => ?_)
  have hlen := counts_len (rv lo) (rv hi) c ((vs.map rv).take i)
  rw [Int.toNat_natCast] at hlen
  by_cases h3 : i < vs.length
  · have hp := ref40_Place (vs.getD i r0) lo hi c (getD_mem_R hvs h3) hl hh (by omega) (by omega)
    have ht := counts_take (rv lo) (rv hi) c (vs.map rv) (i := i) (by rw [List.length_map]; exact h3)
    rw [getD_map_rv h3] at ht
    have hb := counts_bd (rv lo) (rv hi) c ((vs.map rv).take i)
    rw [List.length_take, List.length_map] at hb
    unfold addC at ht
    generalize countsZ (rv lo) (rv hi) c ((vs.map rv).take i) = acc at *
    cases hk : okP (rv (vs.getD i r0)) (rv lo) (rv hi) c
    · rw [hk] at ht hp
      rw [if_neg (by decide)] at ht hp
      clear hb hk
      repeat' (first
        | (show awpL _ _ _ _ _; first | refine goL ?_ | refine cl 15 tt rfl rfl rfl (hr := hp) (k := ?_) | (refine gdLG ?_ ?_ <;> intro _ <;> try (exfalso; omega)))
        | (show awp _ _ _ _; first | refine goA ?_ | (refine cdG ?_ ?_ <;> intro _ <;> try (exfalso; omega)))
        | (show andThen _ _ _ _; refine goN ?_)
        | (show inBlock _ _ _ _; refine goB ?_)
        | (show retPost _ _ _ _ _; refine finG ?_)
        | (show retPostB _ _ _ _ _ _; first | refine finB rfl rfl ?_ ?_ | refine finBT rfl rfl rfl ?_ ?_))
      exact ⟨i + 1, by omega, by omega, ⟨rfl, rfl, rfl, rfl, rfl, rfl, iv (by omega), rfl⟩, rfl, rfl, by rw [ht]; rfl, trivial⟩
    · have hci := cell_in hk
      rw [hk] at ht hp
      rw [if_pos rfl] at ht hp
      have hlt : (cellZ (rv (vs.getD i r0)) (rv lo) (rv hi) c).toNat < acc.length := by omega
      have hg : 0 ≤ acc.getD (cellZ (rv (vs.getD i r0)) (rv lo) (rv hi) c).toNat 0 ∧ acc.getD (cellZ (rv (vs.getD i r0)) (rv lo) (rv hi) c).toNat 0 ≤ (min i vs.length : Nat) := by
        have := hb _ (List.getElem_mem hlt)
        rw [List.getD_eq_getElem?_getD, List.getElem?_eq_getElem hlt]
        exact this
      clear hb hk
      generalize cellZ (rv (vs.getD i r0)) (rv lo) (rv hi) c = z at *
      repeat' (first
        | (show awpL _ _ _ _ _; first | refine goL ?_ | refine cl 15 tt rfl rfl rfl (hr := hp) (k := ?_) | (refine gdLG ?_ ?_ <;> intro _ <;> try (exfalso; omega)))
        | (show awp _ _ _ _; first | refine goA ?_ | (refine cdG ?_ ?_ <;> intro _ <;> try (exfalso; omega)))
        | (show andThen _ _ _ _; refine goN ?_)
        | (show inBlock _ _ _ _; refine goB ?_)
        | (show retPost _ _ _ _ _; refine finG ?_)
        | (show retPostB _ _ _ _ _ _; first | refine finB rfl rfl ?_ ?_ | refine finBT rfl rfl rfl ?_ ?_))
      exact ⟨i + 1, by omega, by omega, ⟨rfl, rfl, rfl, rfl, rfl, rfl, iv (by omega), rfl⟩, rfl, rfl, by rw [ht]; rfl, trivial⟩
  · have e : (vs.map rv).take i = vs.map rv := List.take_of_length_le (by rw [List.length_map]; omega)
    rw [e] at hlen ⊢
    repeat' (first
      | (show awpL _ _ _ _ _; first | refine goL ?_ | (refine gdLG ?_ ?_ <;> intro _ <;> try (exfalso; omega)))
      | (show awp _ _ _ _; first | refine goA ?_ | (refine cdG ?_ ?_ <;> intro _ <;> try (exfalso; omega)))
      | (show andThen _ _ _ _; refine goN ?_)
      | (show inBlock _ _ _ _; refine goB ?_)
      | (show retPost _ _ _ _ _; refine finG ?_)
      | (show retPostB _ _ _ _ _ _; first | refine finB rfl rfl ?_ ?_ | refine finBT rfl rfl rfl ?_ ?_))
    all_goals rfl
theorem lineB_len (l : List Int) : (lineB l).length = l.length := List.length_map ..
theorem lineB_getD {l : List Int} {i : Nat} (h : i < l.length) : (lineB l).getD i 0 = UInt8.ofNat (markZ (l.getD i 0)).toNat := by
  unfold lineB
  simp [List.getD_eq_getElem?_getD, h]
theorem getD_bd {l : List Int} {i : Nat} {k : Int} (h : ∀ x ∈ l, 0 ≤ x ∧ x ≤ k) (hi : i < l.length) : 0 ≤ l.getD i 0 ∧ l.getD i 0 ≤ k := by
  have e : l.getD i 0 = l[i] := by simp [List.getD_eq_getElem?_getD, hi]
  rw [e]; exact h _ (List.getElem_mem hi)
theorem plot_Strip (vs : List R3) (lo hi : R3) (c : Int) (hn : vs.length < 9223372036854775807) (hvs : vs.length ≤ 64 → ∀ r ∈ vs, RatOk r 100) (hl : RatOk lo 100) (hh : RatOk hi 100) (h1 : -9223372036854775808 ≤ c) (h2 : c < 9223372036854775808) : Ret Tryz.prog 19 [rsD vs, rD lo, rD hi, .int .i64 c] (· = if chk vs.length (rv lo) (rv hi) c 1 = 0 then .tup [.str (lineB (countsZ (rv lo) (rv hi) c (vs.map rv)) ++ [10]), .int .i64 0] else .tup [.str [], .int .i64 (chk vs.length (rv lo) (rv hi) c 1)]) := by
  have hk := plot_check vs lo hi c 1 hn hl hh
  by_cases he : chk vs.length (rv lo) (rv hi) c 1 = 0
  · rw [if_pos he]
    rw [he] at hk
    have hlen : 1 ≤ vs.length ∧ vs.length ≤ 64 ∧ 1 ≤ c ∧ c ≤ 100 := by
      unfold chk at he
      split at he
      · exact absurd he (by decide)
      · split at he
        · exact absurd he (by decide)
        · rename_i n1 n2
          have n3 : ¬ (c < 1 ∨ 100 < c) := fun h => n2 (.inr (h.elim .inl fun h => .inr (.inl h)))
          omega
    obtain ⟨w, rfl⟩ : ∃ w : Nat, c = w := ⟨c.toNat, by omega⟩
    have hb0 := plot_blanks w (by omega)
    have hb : RetB Tryz.prog 47 [.d (.int .i64 w)] (lookB []) (.own 500 0 w 5 1) (lookB [(500, .data 5 1 eB 0 (List.replicate w (32 : UInt8)))]) := hb0.ren [(6, 500)]
    have hcn := plot_counts vs lo hi w (by omega) (hvs (by omega)) hl hh (by omega)
    have hbd := counts_bd (rv lo) (rv hi) w (vs.map rv)
    have hcl := counts_len (rv lo) (rv hi) w (vs.map rv)
    rw [List.length_map] at hbd
    rw [Int.toNat_natCast] at hcl
    generalize countsZ (rv lo) (rv hi) w (vs.map rv) = cz at *
    clear he hb0
    refine ret_of_awp tab Tryz.func19 rfl rfl (Nat.le_of_ble_eq_true rfl) (fun w0 F0 => ?_)
    repeat' (first
      | (show awpL _ _ _ _ _; first | refine goL ?_ | refine clB 47 [500] (hb) tt rfl rfl rfl rfl rfl rfl leVT allB ?_ | refine cl 46 tt rfl rfl rfl (hr := hk) (k := ?_) | refine cl 48 tt rfl rfl rfl (hr := hcn) (k := ?_) | (refine gdLG ?_ ?_ <;> intro _ <;> try (exfalso; omega)))
      | (show awp _ _ _ _; first | refine goA ?_ | (refine cdG ?_ ?_ <;> intro _ <;> try (exfalso; omega)))
      | (show andThen _ _ _ _; refine goN ?_)
      | (show inBlock _ _ _ _; refine goB ?_)
      | (show retPost _ _ _ _ _; refine finG ?_)
      | (show retPostB _ _ _ _ _ _; first | refine finB rfl rfl ?_ ?_ | refine finBT rfl rfl rfl ?_ ?_))
    refine awp_loop1 (fun (i : Nat) => ([(11, .own 500 0 w 5 1), (28, .d (i64s cz)), (29, .d (.int .i64 w)), (30, .d (.int .i64 i))], [(500, .data 5 1 eB 0 (mixL (lineB cz) (List.replicate w (32 : UInt8)) i))])) (fun i => i ≤ w) (fun i => w - i) 0 (by omega) ⟨rfl, rfl, by rw [← hcl]; rfl, rfl, rfl⟩ ⟨by rw [mixL_zero]; rfl, trivial⟩ (fun i hi' => ?_)
    have hml := mixL_len (a := lineB cz) (r := List.replicate w (32 : UInt8)) (i := i) (by rw [lineB_len]; simp; omega) (by rw [lineB_len]; omega)
    rw [List.length_replicate] at hml
    by_cases h3 : i < w
    · have hs := mixL_set (a := lineB cz) (r := List.replicate w (32 : UInt8)) (i := i) 0 (by rw [lineB_len]; simp; omega) (by rw [lineB_len]; omega)
      rw [lineB_getD (by omega)] at hs
      have hg := getD_bd hbd (show i < cz.length by omega)
      have hm := plot_mark (cz.getD i 0) hg.1 (by omega)
      have hm2 := markZ_bd hg.1
      clear hbd
      repeat' (first
        | (show awpL _ _ _ _ _; first | refine goL ?_ | refine cl 49 tt rfl rfl rfl (hr := hm) (k := ?_) | (refine gdLG ?_ ?_ <;> intro _ <;> try (exfalso; omega)))
        | (show awp _ _ _ _; first | refine goA ?_ | (refine cdG ?_ ?_ <;> intro _ <;> try (exfalso; omega)))
        | (show andThen _ _ _ _; refine goN ?_)
        | (show inBlock _ _ _ _; refine goB ?_)
        | (show retPost _ _ _ _ _; refine finG ?_)
        | (show retPostB _ _ _ _ _ _; first | refine finB rfl rfl ?_ ?_ | refine finBT rfl rfl rfl ?_ ?_))
      exact ⟨i + 1, by omega, by omega, ⟨rfl, rfl, rfl, iv (by omega), rfl⟩, by rw [← hs]; rfl, trivial⟩
    · have : i = w := by omega
      subst this
      have hall := mixL_all (a := lineB cz) (r := List.replicate i (32 : UInt8)) (by rw [lineB_len]; simp; omega)
      rw [lineB_len, hcl] at hall
      rw [hall] at hml ⊢
      have hcut : cut 0 i (lineB cz) = lineB cz := by unfold cut; rw [List.drop_zero]; exact List.take_of_length_le (by omega)
      have hcl2 : (cut 0 i (lineB cz)).length = i := by rw [hcut]; exact hml
      repeat' (first
        | (show awpL _ _ _ _ _; first | refine goL ?_ | (refine gdLG ?_ ?_ <;> intro _ <;> try (exfalso; omega)))
        | (show awp _ _ _ _; first | refine goA ?_ | (refine cdG ?_ ?_ <;> intro _ <;> try (exfalso; omega)))
        | (show andThen _ _ _ _; refine goN ?_)
        | (show inBlock _ _ _ _; refine goB ?_)
        | (show retPost _ _ _ _ _; refine finG ?_)
        | (show retPostB _ _ _ _ _ _; first | refine finB rfl rfl ?_ ?_ | refine finBT rfl rfl rfl ?_ ?_))
      all_goals rw [hcut]
  · rw [if_neg he]
    generalize chk vs.length (rv lo) (rv hi) c 1 = e at *
    refine ret_of_awp tab Tryz.func19 rfl rfl (Nat.le_of_ble_eq_true rfl) (fun w0 F0 => ?_)
    repeat' (first
      | (show awpL _ _ _ _ _; first | refine goL ?_ | refine cl 46 tt rfl rfl rfl (hr := hk) (k := ?_) | (refine gdLG ?_ ?_ <;> intro _ <;> try (exfalso; omega)))
      | (show awp _ _ _ _; first | refine goA ?_ | (refine cdG ?_ ?_ <;> intro _ <;> try (exfalso; omega)))
      | (show andThen _ _ _ _; refine goN ?_)
      | (show inBlock _ _ _ _; refine goB ?_)
      | (show retPost _ _ _ _ _; refine finG ?_)
      | (show retPostB _ _ _ _ _ _; first | refine finB rfl rfl ?_ ?_ | refine finBT rfl rfl rfl ?_ ?_))
    all_goals rfl
end Go.Proofs.YtoppaphffnojdaaGreat
