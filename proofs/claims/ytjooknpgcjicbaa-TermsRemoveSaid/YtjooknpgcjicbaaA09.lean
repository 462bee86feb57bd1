/-
  Contracts of functions of the program, and the layer that they are walked with: F11 F12 F13 F14 F15 F16 FmM TmH G19 G20 TmJ G23 TmK G24 TmG TmI G25. Conditions: as each says.
-/
import Derived.Test.YtjooknpgcjicbaaA08
set_option linter.unnecessarySimpa false
/-
  The reference's reader: what has to come, words, names, digits, exponents. Conditions: the text is not too long.
-/
set_option linter.unusedVariables false
set_option linter.unusedSimpArgs false
set_option maxHeartbeats 8000000
namespace Go.Proofs.Ytjooknpgcjicbaa
open Go.Vw
attribute [local irreducible] awp awpL awpR

theorem ref_wantY (t : List UInt8) (a : Nat) (pl c : Int) (hl : t.length < 1000000) (ha : a ≤ t.length + 10) (h : sgI t (skp t a) = c) : RetB Try.prog 54 [.ptr 600 0, .d (.int .u8 c)] (lookB (rW t a 0 pl)) (.tup []) (lookB (rW t (skp t a + 1) 0 pl)) := by
  have k := ref_take t a 0 pl _ c hl ha (.inl ⟨rfl, rfl⟩)
  rw [if_pos h, decide_eq_true h] at k
  generalize skp t a = i at *
  clear h
  refine retB_of_awp tab [600] Try.func54 rfl rfl rfl (Nat.le_of_ble_eq_true rfl) rfl ⟨Nat.le_refl _, trivial⟩ (fun w0 F0 A io0 => ?_)
  repeat' (first | refine wG ?_ | refine wD [] k ?_ | refine wR ?_ | refine wS ?_ ?_ <;> intro _ | refine wB ?_ ?_ | refine wF ?_)
  all_goals first | exact leVT | exact ⟨rfl, trivial⟩
theorem ref_wantN (t : List UInt8) (a : Nat) (pl c : Int) (hl : t.length < 1000000) (ha : a ≤ t.length + 10) (h : sgI t (skp t a) ≠ c) : RetB Try.prog 54 [.ptr 600 0, .d (.int .u8 c)] (lookB (rW t a 0 pl)) (.tup []) (lookB (rW t (skp t a) 3 (skp t a))) := by
  have k := ref_take t a 0 pl _ c hl ha (.inl ⟨rfl, rfl⟩)
  rw [if_neg h, decide_eq_false h] at k
  generalize skp t a = i at *
  have f := ref_fail0 t i pl 3
  clear h
  refine retB_of_awp tab [600] Try.func54 rfl rfl rfl (Nat.le_of_ble_eq_true rfl) rfl ⟨Nat.le_refl _, trivial⟩ (fun w0 F0 A io0 => ?_)
  repeat' (first | refine wG ?_ | refine wD [] k ?_ | refine wD [] f ?_ | refine wR ?_ | refine wS ?_ ?_ <;> intro _ | refine wB ?_ ?_ | refine wF ?_)
  all_goals first | exact leVT | exact ⟨rfl, trivial⟩
theorem ref_wantE (t : List UInt8) (a : Nat) (er pl c : Int) (hl : t.length < 1000000) (ha : a ≤ t.length + 10) (he : er ≠ 0) (hc : c ≠ 0) : RetB Try.prog 54 [.ptr 600 0, .d (.int .u8 c)] (lookB (rW t a er pl)) (.tup []) (lookB (rW t (skp t a) er pl)) := by
  have k := ref_take t a er pl 0 c hl ha (.inr ⟨he, rfl⟩)
  rw [if_neg (fun e => hc e.symm), decide_eq_false (fun e => hc e.symm)] at k
  generalize skp t a = i at *
  have f := ref_failE t i er pl 3 he
  refine retB_of_awp tab [600] Try.func54 rfl rfl rfl (Nat.le_of_ble_eq_true rfl) rfl ⟨Nat.le_refl _, trivial⟩ (fun w0 F0 A io0 => ?_)
  repeat' (first | refine wG ?_ | refine wD [] k ?_ | refine wD [] f ?_ | refine wR ?_ | refine wS ?_ ?_ <;> intro _ | refine wB ?_ ?_ | refine wF ?_)
  all_goals first | exact leVT | exact ⟨rfl, trivial⟩
theorem ref_wordE (t : List UInt8) (a : Nat) (er pl : Int) (hl : t.length < 1000000) (ha : a ≤ t.length + 10) (he : (er = 0 ∧ sgI t (skp t a) = 0) ∨ er ≠ 0) : RetB Try.prog 83 [.ptr 600 0] (lookB (rW t a er pl)) (.d (.str [])) (lookB (rW t (skp t a) er pl)) := by
  have k := ref_sign t a er pl 0 hl ha (by rcases he with h | h; exact .inl ⟨h.1, h.2.symm⟩; exact .inr ⟨h, rfl⟩)
  have l : Ret Try.prog 81 [.int .u8 0] (· = .bool false) := ref08_Letter 0
  generalize skp t a = i at *
  clear he
  refine retB_of_awp tab [600] Try.func83 rfl rfl rfl (Nat.le_of_ble_eq_true rfl) rfl ⟨Nat.le_refl _, trivial⟩ (fun w0 F0 A io0 => ?_)
  repeat' (first | refine wG ?_ | refine wD [] k ?_ | refine wC l ?_ | refine rg 6 9 ?_ | refine wR ?_ | refine wS ?_ ?_ <;> intro _ | refine wB ?_ ?_ | refine wF ?_)
  all_goals first | exact leVT | exact ⟨rfl, trivial⟩
theorem ref_word (t : List UInt8) (a : Nat) (pl : Int) (hl : t.length < 1000000) (ha : a ≤ t.length) : RetB Try.prog 83 [.ptr 600 0] (lookB (rW t a 0 pl)) (.d (.str (wordR t (skp t a)))) (lookB (rW t (skp t a) 0 pl)) := by
  have hmx := skp_max t a
  by_cases hi : skp t a < t.length
  · have k := ref_sign t a 0 pl _ hl (by omega) (.inl ⟨rfl, rfl⟩)
    generalize skp t a = i at *
    have l := ref08_Letter (t.getD i 0)
    unfold sgI at k
    rw [if_pos hi] at k
    unfold wordR
    cases h : isLet (t.getD i 0) with
    | false =>
      rw [h] at l
      rw [if_neg (by simp)]
      refine retB_of_awp tab [600] Try.func83 rfl rfl rfl (Nat.le_of_ble_eq_true rfl) rfl ⟨Nat.le_refl _, trivial⟩ (fun w0 F0 A io0 => ?_)
      repeat' (first | refine wG ?_ | refine wD [] k ?_ | refine wC l ?_ | refine rg 6 9 ?_ | refine wR ?_ | refine wS ?_ ?_ <;> intro _ | refine wB ?_ ?_ | refine wF ?_)
      all_goals first | exact leVT | exact ⟨rfl, trivial⟩
    | true =>
      rw [h] at l
      rw [if_pos ⟨hi, rfl⟩]
      unfold word
      rw [wend_let hi h]
      have hge := runE_ge isInn t i
      have hle := runE_le isInn (t := t) (i := i) (by omega)
      have hin := fun j (h : i ≤ j) (h2 : j < runE isInn t i) => runE_in isInn (t := t) h h2
      have hst := fun h => runE_stop isInn (t := t) (i := i) h
      generalize runE isInn t i = n at *
      have hc := fun j => ref08_Inner (t.getD j 0)
      clear h
      refine retB_of_awp tab [600] Try.func83 rfl rfl rfl (Nat.le_of_ble_eq_true rfl) rfl ⟨Nat.le_refl _, trivial⟩ (fun w0 F0 A io0 => ?_)
      repeat' (first | refine wG ?_ | refine wD [] k ?_ | refine wC l ?_ | refine rg 6 9 ?_ | refine wR ?_ | refine wS ?_ ?_ <;> intro _ | refine wB ?_ ?_ | refine wF ?_)
      refine awp_loop1 (fun (j : Nat) => ([(0, .ptr 600 0), (3, .d (.int .i64 j))], rW t i 0 pl)) (fun j => i ≤ j ∧ j ≤ n) (fun j => n - j) i ⟨Nat.le_refl _, hge⟩ ⟨rfl, rfl, rfl⟩ ⟨rfl, trivial⟩ (fun j hj => ?_)
      have c := hc j
      clear hc k l
      by_cases g : j < n
      · rw [hin j hj.1 g] at c
        clear hin hst
        repeat' (first | refine wG ?_ | refine wC c ?_ | refine rg 6 9 ?_ | refine wR ?_ | refine wS ?_ ?_ <;> intro _ | refine wB ?_ ?_ | refine wF ?_)
        exact ⟨j + 1, by omega, by omega, ⟨rfl, iv (by omega), rfl⟩, rfl, trivial⟩
      · have e : j = n := by omega
        subst e
        by_cases hn : j < t.length
        · rw [hst hn] at c
          clear hin hst
          repeat' (first | refine wG ?_ | refine wC c ?_ | refine rg 6 9 ?_ | refine wR ?_ | refine wS ?_ ?_ <;> intro _ | refine wB ?_ ?_ | refine wF ?_)
          all_goals first | exact leVT | exact ⟨rfl, trivial⟩
        · clear hin hst c
          repeat' (first | refine wG ?_ | refine rg 6 9 ?_ | refine wR ?_ | refine wS ?_ ?_ <;> intro _ | refine wB ?_ ?_ | refine wF ?_)
          all_goals first | exact leVT | exact ⟨rfl, trivial⟩
  · have h0 : sgI t (skp t a) = 0 := by unfold sgI; rw [if_neg hi]
    have := ref_wordE t a 0 pl hl (by omega) (.inl ⟨rfl, h0⟩)
    unfold wordR
    rw [if_neg (fun h => hi h.1)]
    exact this
theorem ref_nameE (t : List UInt8) (a : Nat) (er pl : Int) (hl : t.length < 1000000) (ha : a ≤ t.length + 10) (he : er ≠ 0) : RetB Try.prog 53 [.ptr 600 0] (lookB (rW t a er pl)) (.d (.str [])) (lookB (rW t (skp t a) er pl)) := by
  have w := ref_wordE t a er pl hl ha (.inr he)
  have n : Ret Try.prog 46 [.str []] (· = .bool false) := ref08_Name []
  generalize skp t a = i at *
  have f := ref_failE t i er pl 3 he
  refine retB_of_awp tab [600] Try.func53 rfl rfl rfl (Nat.le_of_ble_eq_true rfl) rfl ⟨Nat.le_refl _, trivial⟩ (fun w0 F0 A io0 => ?_)
  repeat' (first | refine wG ?_ | refine wD [] w ?_ | refine wD [] f ?_ | refine wC n ?_ | refine wR ?_ | refine wS ?_ ?_ <;> intro _ | refine wB ?_ ?_ | refine wF ?_)
  all_goals first | exact leVT | exact ⟨rfl, trivial⟩
theorem ref_nameN (t : List UInt8) (a : Nat) (pl : Int) (hl : t.length < 1000000) (ha : a ≤ t.length) (h : isName (word t (skp t a)) = false) : RetB Try.prog 53 [.ptr 600 0] (lookB (rW t a 0 pl)) (.d (.str [])) (lookB (rW t (skp t a) 3 (skp t a))) := by
  have w := ref_word t a pl hl ha
  have n := ref08_Name (wordR t (skp t a))
  rw [(wordR_name t (skp t a)).1, h] at n
  generalize wordR t (skp t a) = v at *
  generalize skp t a = i at *
  have f := ref_fail0 t i pl 3
  clear h
  refine retB_of_awp tab [600] Try.func53 rfl rfl rfl (Nat.le_of_ble_eq_true rfl) rfl ⟨Nat.le_refl _, trivial⟩ (fun w0 F0 A io0 => ?_)
  repeat' (first | refine wG ?_ | refine wD [] w ?_ | refine wD [] f ?_ | refine wC n ?_ | refine wR ?_ | refine wS ?_ ?_ <;> intro _ | refine wB ?_ ?_ | refine wF ?_)
  all_goals first | exact leVT | exact ⟨rfl, trivial⟩
theorem ref_nameY (t : List UInt8) (a : Nat) (pl : Int) (hl : t.length < 1000000) (ha : a ≤ t.length) (h : isName (word t (skp t a)) = true) : RetB Try.prog 53 [.ptr 600 0] (lookB (rW t a 0 pl)) (.d (.str (word t (skp t a)))) (lookB (rW t (wend t (skp t a)) 0 pl)) := by
  have w := ref_word t a pl hl ha
  have n := ref08_Name (wordR t (skp t a))
  rw [(wordR_name t (skp t a)).1, h] at n
  rw [(wordR_name t (skp t a)).2 h] at n w
  have hmx := skp_max t a
  have hlen := word_len (t := t) (i := skp t a) (by omega)
  have hlt := wend_gt (lt_of_word (isName_ne h))
  have hle := wend_le t (skp t a)
  generalize word t (skp t a) = v at *
  generalize wend t (skp t a) = j at *
  generalize skp t a = i at *
  clear h
  refine retB_of_awp tab [600] Try.func53 rfl rfl rfl (Nat.le_of_ble_eq_true rfl) rfl ⟨Nat.le_refl _, trivial⟩ (fun w0 F0 A io0 => ?_)
  repeat' (first | refine wG ?_ | refine wD [] w ?_ | refine wC n ?_ | refine wR ?_ | refine wS ?_ ?_ <;> intro _ | refine wB ?_ ?_ | refine wF ?_)
  all_goals first | exact leVT | exact ⟨rdEq (by omega), trivial⟩
def dgI (t : List UInt8) (i : Nat) : Int := match digP t i with | some n => n | none => -1
theorem ref_digitE (t : List UInt8) (a : Nat) (er pl : Int) (hl : t.length < 1000000) (ha : a ≤ t.length + 10) (he : (er = 0 ∧ sgI t (skp t a) = 0) ∨ er ≠ 0) : RetB Try.prog 105 [.ptr 600 0] (lookB (rW t a er pl)) (.d (.int .i64 (-1))) (lookB (rW t (skp t a) er pl)) := by
  have k := ref_sign t a er pl 0 hl ha (by rcases he with h | h; exact .inl ⟨h.1, h.2.symm⟩; exact .inr ⟨h, rfl⟩)
  generalize skp t a = i at *
  clear he
  refine retB_of_awp tab [600] Try.func105 rfl rfl rfl (Nat.le_of_ble_eq_true rfl) rfl ⟨Nat.le_refl _, trivial⟩ (fun w0 F0 A io0 => ?_)
  repeat' (first | refine wG ?_ | refine wD [] k ?_ | refine rg 2 41 ?_ | refine wR ?_ | refine wS ?_ ?_ <;> intro _ | refine wB ?_ ?_ | refine wF ?_)
  all_goals first | exact leVT | exact ⟨rfl, trivial⟩
theorem ref_digit (t : List UInt8) (a : Nat) (pl : Int) (hl : t.length < 1000000) (ha : a ≤ t.length) : RetB Try.prog 105 [.ptr 600 0] (lookB (rW t a 0 pl)) (.d (.int .i64 (dgI t (skp t a)))) (lookB (rW t (skp t a) 0 pl)) := by
  have hmx := skp_max t a
  unfold dgI
  rw [digP_eq]
  by_cases hi : skp t a < t.length
  · have k := ref_sign t a 0 pl _ hl (by omega) (.inl ⟨rfl, rfl⟩)
    generalize skp t a = i at *
    unfold sgI at k
    rw [if_pos hi] at k
    rw [isDig_nat, isDig_nat]
    simp only [Bool.and_eq_true, decide_eq_true_eq]
    have r := u8_rng (t.getD i 0)
    have ec : (i : Int) + 1 = ((i + 1 : Nat) : Int) := by omega
    by_cases h1 : 48 ≤ ((t.getD i 0).toNat : Int) ∧ ((t.getD i 0).toNat : Int) ≤ 57
    · by_cases h2 : i + 1 < t.length
      · have e1 : ((i : Int) + 1).toNat = i + 1 := by omega
        by_cases h3 : 48 ≤ ((t.getD (i + 1) 0).toNat : Int) ∧ ((t.getD (i + 1) 0).toNat : Int) ≤ 57
        · rw [if_neg (fun h => h.2.2 ⟨h2, h3⟩)]
          dsimp only
          have h3b : 48 ≤ ((t.getD (i + nat_lit 1) 0).toNat : Int) ∧ ((t.getD (i + nat_lit 1) 0).toNat : Int) ≤ 57 := h3
          have h3c : 48 ≤ ((t.getD (Nat.succ i) 0).toNat : Int) ∧ ((t.getD (Nat.succ i) 0).toNat : Int) ≤ 57 := h3
          refine retB_of_awp tab [600] Try.func105 rfl rfl rfl (Nat.le_of_ble_eq_true rfl) rfl ⟨Nat.le_refl _, trivial⟩ (fun w0 F0 A io0 => ?_)
          repeat' (first | refine wG ?_ | refine wD [] k ?_ | refine rg 2 41 ?_ | refine wR ?_ | refine wS ?_ ?_ <;> intro _ | refine wB ?_ ?_ | refine wF ?_)
          all_goals first | exact leVT | exact ⟨rfl, trivial⟩
        · rw [if_pos ⟨hi, h1, fun h => h3 h.2⟩]
          dsimp only
          have h3b : ¬ (48 ≤ ((t.getD (i + nat_lit 1) 0).toNat : Int) ∧ ((t.getD (i + nat_lit 1) 0).toNat : Int) ≤ 57) := h3
          have h3c : ¬ (48 ≤ ((t.getD (Nat.succ i) 0).toNat : Int) ∧ ((t.getD (Nat.succ i) 0).toNat : Int) ≤ 57) := h3
          refine retB_of_awp tab [600] Try.func105 rfl rfl rfl (Nat.le_of_ble_eq_true rfl) rfl ⟨Nat.le_refl _, trivial⟩ (fun w0 F0 A io0 => ?_)
          repeat' (first | refine wG ?_ | refine wD [] k ?_ | refine rg 2 41 ?_ | refine wR ?_ | refine wS ?_ ?_ <;> intro _ | refine wB ?_ ?_ | refine wF ?_)
          all_goals first | exact leVT | exact ⟨rfl, trivial⟩
      · rw [if_pos ⟨hi, h1, fun h => h2 h.1⟩]
        dsimp only
        refine retB_of_awp tab [600] Try.func105 rfl rfl rfl (Nat.le_of_ble_eq_true rfl) rfl ⟨Nat.le_refl _, trivial⟩ (fun w0 F0 A io0 => ?_)
        repeat' (first | refine wG ?_ | refine wD [] k ?_ | refine rg 2 41 ?_ | refine wR ?_ | refine wS ?_ ?_ <;> intro _ | refine wB ?_ ?_ | refine wF ?_)
        all_goals first | exact leVT | exact ⟨rfl, trivial⟩
    · rw [if_neg (fun h => h1 h.2.1)]
      dsimp only
      refine retB_of_awp tab [600] Try.func105 rfl rfl rfl (Nat.le_of_ble_eq_true rfl) rfl ⟨Nat.le_refl _, trivial⟩ (fun w0 F0 A io0 => ?_)
      repeat' (first | refine wG ?_ | refine wD [] k ?_ | refine rg 2 41 ?_ | refine wR ?_ | refine wS ?_ ?_ <;> intro _ | refine wB ?_ ?_ | refine wF ?_)
      all_goals first | exact leVT | exact ⟨rfl, trivial⟩
  · have h0 : sgI t (skp t a) = 0 := by unfold sgI; rw [if_neg hi]
    have := ref_digitE t a 0 pl hl (by omega) (.inl ⟨rfl, h0⟩)
    rw [if_neg (fun h => hi h.1)]
    exact this
theorem ref_expE (t : List UInt8) (a lo hi : Nat) (er pl : Int) (hl : t.length < 1000000) (ha : a ≤ t.length + 9) (he : er ≠ 0) : RetB Try.prog 101 [.ptr 600 0, .d (.int .i64 lo), .d (.int .i64 hi)] (lookB (rW t a er pl)) (.d (.int .i64 (-1))) (lookB (rW t (skp t a + 1) er pl)) := by
  have d := ref_digitE t a er pl hl (by omega) (.inr he)
  have hmx := skp_max t a
  generalize skp t a = i at *
  have f := ref_failE t i er pl 3 he
  refine retB_of_awp tab [600] Try.func101 rfl rfl rfl (Nat.le_of_ble_eq_true rfl) rfl ⟨Nat.le_refl _, trivial⟩ (fun w0 F0 A io0 => ?_)
  repeat' (first | refine wG ?_ | refine wD [] d ?_ | refine wD [] f ?_ | refine wR ?_ | refine wS ?_ ?_ <;> intro _ | refine wB ?_ ?_ | refine wF ?_)
  all_goals first | exact leVT | exact ⟨rdEq (by omega), trivial⟩
theorem ref_expN (t : List UInt8) (a lo hi : Nat) (pl : Int) (hl : t.length < 1000000) (ha : a ≤ t.length) (x : PErr) (h : numP t lo hi (skp t a) = .error x) : RetB Try.prog 101 [.ptr 600 0, .d (.int .i64 lo), .d (.int .i64 hi)] (lookB (rW t a 0 pl)) (.d (.int .i64 (dgI t (skp t a)))) (lookB (rW t (skp t a + 1) x.2 x.1)) := by
  have d := ref_digit t a pl hl ha
  have hmx := skp_max t a
  unfold dgI at d ⊢
  unfold numP at h
  split at h
  · rename_i hd
    rw [hd] at d ⊢
    cases h
    generalize skp t a = i at *
    have f := ref_fail0 t i pl 3
    dsimp only at d ⊢
    refine retB_of_awp tab [600] Try.func101 rfl rfl rfl (Nat.le_of_ble_eq_true rfl) rfl ⟨Nat.le_refl _, trivial⟩ (fun w0 F0 A io0 => ?_)
    repeat' (first | refine wG ?_ | refine wD [] d ?_ | refine wD [] f ?_ | refine wR ?_ | refine wS ?_ ?_ <;> intro _ | refine wB ?_ ?_ | refine wF ?_)
    all_goals first | exact leVT | exact ⟨rdEq (by omega), trivial⟩
  · rename_i n hd
    rw [hd] at d ⊢
    split at h
    · cases h
    · rename_i hr
      cases h
      generalize skp t a = i at *
      have f := ref_fail0 t i pl 1
      dsimp only at d ⊢
      by_cases h1 : (n : Int) < lo
      · refine retB_of_awp tab [600] Try.func101 rfl rfl rfl (Nat.le_of_ble_eq_true rfl) rfl ⟨Nat.le_refl _, trivial⟩ (fun w0 F0 A io0 => ?_)
        repeat' (first | refine wG ?_ | refine wD [] d ?_ | refine wD [] f ?_ | refine wR ?_ | refine wS ?_ ?_ <;> intro _ | refine wB ?_ ?_ | refine wF ?_)
        all_goals first | exact leVT | exact ⟨rdEq (by omega), trivial⟩
      · refine retB_of_awp tab [600] Try.func101 rfl rfl rfl (Nat.le_of_ble_eq_true rfl) rfl ⟨Nat.le_refl _, trivial⟩ (fun w0 F0 A io0 => ?_)
        repeat' (first | refine wG ?_ | refine wD [] d ?_ | refine wD [] f ?_ | refine wR ?_ | refine wS ?_ ?_ <;> intro _ | refine wB ?_ ?_ | refine wF ?_)
        all_goals first | exact leVT | exact ⟨rdEq (by omega), trivial⟩
theorem ref_exp (t : List UInt8) (a lo hi n j : Nat) (pl : Int) (hl : t.length < 1000000) (ha : a ≤ t.length) (h : numP t lo hi (skp t a) = .ok (n, j)) : RetB Try.prog 101 [.ptr 600 0, .d (.int .i64 lo), .d (.int .i64 hi)] (lookB (rW t a 0 pl)) (.d (.int .i64 n)) (lookB (rW t (skp t a + 1) 0 pl)) := by
  have d := ref_digit t a pl hl ha
  have hmx := skp_max t a
  obtain ⟨b1, b2, b3, b4, b5, b6⟩ := numP_ok h
  unfold dgI at d
  rw [b6] at d
  dsimp only at d
  clear b1 b3 b6 h
  generalize skp t a = i at *
  refine retB_of_awp tab [600] Try.func101 rfl rfl rfl (Nat.le_of_ble_eq_true rfl) rfl ⟨Nat.le_refl _, trivial⟩ (fun w0 F0 A io0 => ?_)
  repeat' (first | refine wG ?_ | refine wD [] d ?_ | refine wR ?_ | refine wS ?_ ?_ <;> intro _ | refine wB ?_ ?_ | refine wF ?_)
  all_goals first | exact leVT | exact ⟨rdEq (by omega), trivial⟩
end Go.Proofs.Ytjooknpgcjicbaa

/-
  The reference's reader: operations, levels, operands. Conditions: the text is not too long.
-/
set_option maxHeartbeats 8000000
namespace Go.Proofs.Ytjooknpgcjicbaa
open Go.Vw
attribute [local irreducible] awp awpL awpR

theorem ref_level (v r : Int) : Ret Try.prog 86 [.int .u8 v, .int .i64 r] (· = .int .i64 (lvI r v)) := by
  unfold lvI
  refine ret_of_awp tab Try.func86 rfl rfl (Nat.le_of_ble_eq_true rfl) (fun w0 F0 => ?_)
  repeat' (first | refine wG ?_ | refine wR ?_ | refine wS ?_ ?_ <;> intro _ | refine finG ?_)
  all_goals (refine congrArg (D.int .i64) ?_; ((repeat' split) <;> omega))
abbrev n8B (l : List Nd) : Blk := .data ndT 3 ndC nd0 l
theorem ref_operation (op k : Int) (s : List UInt8) (L : List (List Nd)) (hn : L.flatten.length ≤ 10000000) (hl : L.length ≤ 1000) : Ret Try.prog 87 [.agg [.int .i64 op, .str s, .int .i64 k], nlD L] (· = ndsD ((op, s, k) :: L.flatten)) := by
  obtain ⟨E, hE⟩ : ∃ E : Nat → List Nd, ∀ i, E i = (op, s, k) :: (L.take i).flatten := ⟨fun i => (op, s, k) :: (L.take i).flatten, fun _ => rfl⟩
  have e0 : E 0 = [(op, s, k)] := by rw [hE]; rfl
  have eS : ∀ i, i < L.length → E (i + 1) = E i ++ L.getD i [] := fun i hi => by rw [hE, hE, take_flat hi]; rfl
  have eL : ∀ i, (E i).length ≤ 10000001 := fun i => by rw [hE]; have := flat_le L i; simp only [List.length_cons]; omega
  have eN : (op, s, k) :: L.flatten = E L.length := by rw [hE, List.take_of_length_le (Nat.le_refl _)]
  rw [eN]
  clear hE eN hn
  refine ret_of_awp tab Try.func87 rfl rfl (Nat.le_of_ble_eq_true rfl) (fun w0 F0 => ?_)
  repeat' (first | refine stepLitO (d := 8) (en := ndC) (z := nd0) (l := [(op, s, k)]) rfl rfl rfl rfl rfl (LeR.cons rfl leL LeR.nil) ?_ | refine wG ?_ | refine wR ?_ | refine wS ?_ ?_ <;> intro _ | refine finG ?_)
  refine awp_loop1 (fun (i : Nat) => ([(1, .d (nlD L)), (5, .own 8 0 (E i).length ndT 3), (6, .d (.int .i64 i))], [(8, n8B (E i))])) (fun i => i ≤ L.length) (fun i => L.length - i) 0 (by omega) ⟨rfl, (by rw [e0]; rfl), rfl, rfl⟩ ⟨by rw [e0]; rfl, trivial⟩ (fun i hi => ?_)
  have hel := eL i
  by_cases g : i < L.length
  · have st := eS i g
    have hel2 := eL (i + 1)
    have sl : (E (i + 1)).length = (E i).length + (L.getD i []).length := by rw [st, List.length_append]
    clear eS eL
    repeat' (first | refine wG ?_ | refine wR ?_ | refine wS ?_ ?_ <;> intro _ | refine finG ?_)
    exact ⟨i + 1, by omega, by omega, ⟨rfl, by rw [st]; rfl, iv (by omega), rfl⟩, by rw [st]; rfl, trivial⟩
  · have e : i = L.length := by omega
    subst e
    clear eS eL
    repeat' (first | refine wG ?_ | refine wR ?_ | refine wS ?_ ?_ <;> intro _ | refine finG ?_)
    rfl
end Go.Proofs.Ytjooknpgcjicbaa

/-
  The reference's reader: operands, expressions. Conditions: the text is not too long.
-/
set_option maxHeartbeats 8000000
namespace Go.Proofs.Ytjooknpgcjicbaa
open Go.Vw
attribute [local irreducible] awp awpL awpR

abbrev g0 : Nd := ((1 : Int), [], (0 : Int))
def RdR (f : FuncId) (args : List V) (t : List UInt8) (a : Nat) (pl : Int) : Pos (List Nd) → Prop
  | .ok (e, j) => ∃ a', a' ≤ t.length ∧ skp t a' = j ∧ RetB Try.prog f args (lookB (rW t a 0 pl)) (.d (ndsD e)) (lookB (rW t a' 0 pl))
  | .error x => ∃ M a', a' ≤ t.length + 1 ∧ M.length ≤ t.length - skp t a + 2 ∧ RetB Try.prog f args (lookB (rW t a 0 pl)) (.d (ndsD M)) (lookB (rW t a' x.2 x.1))
abbrev priA : List V := [.ptr 600 0]
abbrev binA (r : Nat) : List V := [.ptr 600 0, .d (.int .i64 r)]
def BrP (t : List UInt8) (p : Pos (List Nd)) : Pos (List Nd) → Prop
  | .error x => p = .error x
  | .ok (e, j) => (∃ x, mustP t 41 j = .error x ∧ p = .error x) ∨ ∃ k, mustP t 41 j = .ok k ∧ p = .ok (e, k)
theorem ref_primBr (t : List UInt8) (a : Nat) (pl : Int) (hl : t.length < 1000000) (ha : a ≤ t.length) (hw : word t (skp t a) = [40]) (o : Pos (List Nd)) (hB : RdR 55 (binA 1) t (skp t a + 1) pl o) (hg : Goes t (.lev 0) (nxt t (skp t a)) o) (p : Pos (List Nd)) (hp : BrP t p o) : RdR 100 priA t a pl p := by
  have hmx := skp_max t a
  have hs : sgI t (skp t a) = 40 := (word_sg (by decide) (by decide) (by decide)).1 hw
  have k := ref_take t a 0 pl _ 40 hl (by omega) (.inl ⟨rfl, rfl⟩)
  rw [if_pos hs, decide_eq_true hs] at k
  have hn := sg_nxt (by decide) (by decide) hw
  have hlt := sgI_lt hs (by decide)
  have h2 := nxt_gt hlt
  cases o with
  | error x =>
    have hp : p = .error x := hp
    subst hp
    obtain ⟨M, a', b1, b2, b3⟩ := hB
    have he : x.2 ≠ 0 := by have := hg.2.2.2; omega
    rw [← hn] at b2
    have w := ref_wantE t a' x.2 x.1 41 hl (by omega) he (by decide)
    have hm2 := skp_max t a'
    refine ⟨M, skp t a', by omega, by omega, ?_⟩
    generalize skp t a' = a2 at *
    generalize skp t a = i at *
    clear hw hs hn hg h2
    refine retB_of_awp tab [600] Try.func100 rfl rfl rfl (Nat.le_of_ble_eq_true rfl) rfl ⟨Nat.le_refl _, trivial⟩ (fun w0 F0 A io0 => ?_)
    repeat' (first | refine wG ?_ | refine wD [] k ?_ | refine wD [] b3 ?_ | refine wD [] w ?_ | refine wR ?_ | refine wS ?_ ?_ <;> intro _ | refine wB ?_ ?_ | refine wF ?_)
    all_goals first | exact leVT | exact ⟨rfl, trivial⟩
  | ok q =>
    obtain ⟨e, j⟩ := q
    obtain ⟨a', b1, b2, b3⟩ := hB
    subst b2
    have hj := hg.1.le
    have hlen := hg.2.2.1
    have hij := hg.2.1
    simp only [Kd.pre] at hlen
    rcases hp with ⟨x, hx, rfl⟩ | ⟨k2, hk, rfl⟩
    · obtain ⟨e1, e2⟩ := mustP_er hx
      subst e1
      have hne : sgI t (skp t a') ≠ 41 := fun h => e2 ((word_sg (by decide) (by decide) (by decide)).2 h)
      have w := ref_wantN t a' pl 41 hl (by omega) hne
      refine ⟨e, skp t a', by omega, by omega, ?_⟩
      show RetB _ _ _ _ _ (lookB (rW t (skp t a') 3 (skp t a')))
      generalize skp t a' = a2 at *
      generalize skp t a = i at *
      clear hw hs hn hg h2 hx e2
      refine retB_of_awp tab [600] Try.func100 rfl rfl rfl (Nat.le_of_ble_eq_true rfl) rfl ⟨Nat.le_refl _, trivial⟩ (fun w0 F0 A io0 => ?_)
      repeat' (first | refine wG ?_ | refine wD [] k ?_ | refine wD [] b3 ?_ | refine wD [] w ?_ | refine wR ?_ | refine wS ?_ ?_ <;> intro _ | refine wB ?_ ?_ | refine wF ?_)
      all_goals first | exact leVT | exact ⟨rfl, trivial⟩
    · obtain ⟨e1, e2, e3, e4⟩ := mustP_ok hk
      have hs2 : sgI t (skp t a') = 41 := (word_sg (by decide) (by decide) (by decide)).1 e4
      have hn2 := sg_nxt (by decide) (by decide) e4
      have hlt2 := sgI_lt hs2 (by decide)
      have w := ref_wantY t a' pl 41 hl (by omega) hs2
      refine ⟨skp t a' + 1, by omega, by rw [e3, hn2], ?_⟩
      generalize skp t a' = a2 at *
      generalize skp t a = i at *
      clear hw hs hn hg h2 hk e1 e3 e4 hn2
      refine retB_of_awp tab [600] Try.func100 rfl rfl rfl (Nat.le_of_ble_eq_true rfl) rfl ⟨Nat.le_refl _, trivial⟩ (fun w0 F0 A io0 => ?_)
      repeat' (first | refine wG ?_ | refine wD [] k ?_ | refine wD [] b3 ?_ | refine wD [] w ?_ | refine wR ?_ | refine wS ?_ ?_ <;> intro _ | refine wB ?_ ?_ | refine wF ?_)
      all_goals first | exact leVT | exact ⟨rfl, trivial⟩
theorem ref_primPow (t : List UInt8) (a : Nat) (pl : Int) (hl : t.length < 1000000) (ha : a ≤ t.length) (hw : word t (skp t a) = pwB) : RdR 100 priA t a pl (powP t (nxt t (skp t a))) := by
  have hmx := skp_max t a
  have hs : sgI t (skp t a) ≠ 40 := fun h => by
    have := (word_sg (t := t) (i := skp t a) (c := 40) (by decide) (by decide) (by decide)).2 h
    rw [hw] at this; revert this; decide
  have k := ref_take t a 0 pl _ 40 hl (by omega) (.inl ⟨rfl, rfl⟩)
  rw [if_neg hs, decide_eq_false hs] at k
  have ss := skp_skp t a
  have hdg : dgI t (skp t a) = -1 := by unfold dgI digP; rw [hw, if_neg (by decide)]
  have hlt := lt_of_word (t := t) (i := skp t a) (by rw [hw]; decide)
  have hwl := word_len (t := t) (i := skp t a) (by omega)
  rw [hw, show pwB.length = 5 from rfl] at hwl
  have hwe := wend_le t (skp t a)
  have ei : wend t (skp t a) = skp t a + 5 := by have := wend_gt hlt; omega
  have en : nxt t (skp t a) = skp t (skp t a + 5) := by unfold nxt; rw [ei]
  have wr := (wordR_pw t (skp t a)).2 hw
  generalize hi : skp t a = i at *
  have d := ref_digit t i pl hl (by omega)
  have w := ref_word t i pl hl (by omega)
  rw [ss, hdg] at d
  rw [ss, wr] at w
  have w : RetB Try.prog 83 [.ptr 600 0] (lookB (rW t i 0 pl)) (.d (.str [112, 111, 119, 101, 114])) (lookB (rW t i 0 pl)) := w
  rw [en]
  have hk := hi
  obtain ⟨b1, hb1⟩ : ∃ b, i + 5 = b := ⟨_, rfl⟩
  have lb1 : b1 ≤ t.length := by omega
  rw [hb1]
  unfold powP
  cases e1 : mustP t 40 (skp t b1) with
  | error x =>
    obtain ⟨q1, q2⟩ := mustP_er e1
    have c1 := ref_wantN t b1 pl 40 hl (by omega) (fun h => q2 ((word_sg (by decide) (by decide) (by decide)).2 h))
    subst q1
    have s1 := skp_skp t b1
    have mm := skp_max t b1
    generalize skp t b1 = i1 at *
    have c2 := ref_nameE t i1 3 i1 hl (by omega) (by decide)
    rw [s1] at c2
    have c3 := ref_wantE t i1 3 i1 44 hl (by omega) (by decide) (by decide)
    rw [s1] at c3
    have c4 := ref_expE t i1 2 8 3 i1 hl (by omega) (by decide)
    rw [s1] at c4
    have c5 := ref_wantE t (i1 + 1) 3 i1 41 hl (by omega) (by decide) (by decide)
    have mm5 := skp_max t (i1 + 1)
    have ss5 := skp_skp t (i1 + 1)
    generalize skp t (i1 + 1) = i5 at *
    refine ⟨[((2 : Int), [], (-1 : Int))], i5, by omega, by simp, ?_⟩
    show RetB _ _ _ _ _ (lookB (rW t i5 3 i1))
    clear hw hs hk hi wr ss en hdg q2
    rw [← hb1] at c1
    refine retB_of_awp tab [600] Try.func100 rfl rfl rfl (Nat.le_of_ble_eq_true rfl) rfl ⟨Nat.le_refl _, trivial⟩ (fun w0 F0 A io0 => ?_)
    repeat' (first | refine wG ?_ | refine wD [] k ?_ | refine wD [] d ?_ | refine wD [] w ?_ | refine wD [] c1 ?_ | refine wD [] c2 ?_ | refine wD [] c3 ?_ | refine wD [] c4 ?_ | refine wD [] c5 ?_ | refine wR ?_ | refine wS ?_ ?_ <;> intro _ | refine wB ?_ ?_ | refine wF ?_)
    all_goals first | exact leVT | exact ⟨rdEq (by omega), trivial⟩ | exact ⟨rfl, trivial⟩
  | ok j1 =>
    obtain ⟨q1, q2, q3, q4⟩ := mustP_ok e1
    have sg1 : sgI t (skp t b1) = 40 := (word_sg (by decide) (by decide) (by decide)).1 q4
    have c1 := ref_wantY t b1 pl 40 hl (by omega) sg1
    have n1 := sg_nxt (by decide) (by decide) q4
    have l1 := sgI_lt sg1 (by decide)
    simp only
    rw [q3, n1]
    obtain ⟨b2, hb2⟩ : ∃ b, skp t b1 + 1 = b := ⟨_, rfl⟩
    rw [hb2] at c1 ⊢
    have lb2 : b2 ≤ t.length := by omega
    cases e2 : nameP t (skp t b2) with
    | error x =>
      obtain ⟨q1, q2⟩ := nameP_er e2
      have c2 := ref_nameN t b2 pl hl (by omega) q2
      subst q1
      have s2 := skp_skp t b2
      have mm := skp_max t b2
      generalize skp t b2 = i2 at *
      have c3 := ref_wantE t i2 3 i2 44 hl (by omega) (by decide) (by decide)
      rw [s2] at c3
      have c4 := ref_expE t i2 2 8 3 i2 hl (by omega) (by decide)
      rw [s2] at c4
      have c5 := ref_wantE t (i2 + 1) 3 i2 41 hl (by omega) (by decide) (by decide)
      have mm5 := skp_max t (i2 + 1)
      have ss5 := skp_skp t (i2 + 1)
      generalize skp t (i2 + 1) = i5 at *
      refine ⟨[((2 : Int), [], (-1 : Int))], i5, by omega, by simp, ?_⟩
      show RetB _ _ _ _ _ (lookB (rW t i5 3 i2))
      clear hw hs hk hi wr ss en hdg q2
      rw [← hb1] at c1
      refine retB_of_awp tab [600] Try.func100 rfl rfl rfl (Nat.le_of_ble_eq_true rfl) rfl ⟨Nat.le_refl _, trivial⟩ (fun w0 F0 A io0 => ?_)
      repeat' (first | refine wG ?_ | refine wD [] k ?_ | refine wD [] d ?_ | refine wD [] w ?_ | refine wD [] c1 ?_ | refine wD [] c2 ?_ | refine wD [] c3 ?_ | refine wD [] c4 ?_ | refine wD [] c5 ?_ | refine wR ?_ | refine wS ?_ ?_ <;> intro _ | refine wB ?_ ?_ | refine wF ?_)
      all_goals first | exact leVT | exact ⟨rdEq (by omega), trivial⟩ | exact ⟨rfl, trivial⟩
    | ok p2 =>
      obtain ⟨s, j2⟩ := p2
      obtain ⟨q1, q2, q3, q4, q5⟩ := nameP_ok e2
      have c2 := ref_nameY t b2 pl hl (by omega) (by rw [← q4]; exact q5)
      rw [← q4] at c2
      have n2 : nxt t (skp t b2) = skp t (wend t (skp t b2)) := rfl
      have l2 := wend_le t (skp t b2)
      simp only
      rw [q3, n2]
      obtain ⟨b3, hb3⟩ : ∃ b, wend t (skp t b2) = b := ⟨_, rfl⟩
      rw [hb3] at c2 ⊢
      have lb3 : b3 ≤ t.length := by omega
      cases e3 : mustP t 44 (skp t b3) with
      | error x =>
        obtain ⟨q1, q2⟩ := mustP_er e3
        have c3 := ref_wantN t b3 pl 44 hl (by omega) (fun h => q2 ((word_sg (by decide) (by decide) (by decide)).2 h))
        subst q1
        have s3 := skp_skp t b3
        have mm := skp_max t b3
        generalize skp t b3 = i3 at *
        have c4 := ref_expE t i3 2 8 3 i3 hl (by omega) (by decide)
        rw [s3] at c4
        have c5 := ref_wantE t (i3 + 1) 3 i3 41 hl (by omega) (by decide) (by decide)
        have mm5 := skp_max t (i3 + 1)
        have ss5 := skp_skp t (i3 + 1)
        generalize skp t (i3 + 1) = i5 at *
        refine ⟨[((2 : Int), s, (-1 : Int))], i5, by omega, by simp, ?_⟩
        show RetB _ _ _ _ _ (lookB (rW t i5 3 i3))
        clear hw hs hk hi wr ss en hdg q2
        rw [← hb1] at c1
        refine retB_of_awp tab [600] Try.func100 rfl rfl rfl (Nat.le_of_ble_eq_true rfl) rfl ⟨Nat.le_refl _, trivial⟩ (fun w0 F0 A io0 => ?_)
        repeat' (first | refine wG ?_ | refine wD [] k ?_ | refine wD [] d ?_ | refine wD [] w ?_ | refine wD [] c1 ?_ | refine wD [] c2 ?_ | refine wD [] c3 ?_ | refine wD [] c4 ?_ | refine wD [] c5 ?_ | refine wR ?_ | refine wS ?_ ?_ <;> intro _ | refine wB ?_ ?_ | refine wF ?_)
        all_goals first | exact leVT | exact ⟨rdEq (by omega), trivial⟩ | exact ⟨rfl, trivial⟩
      | ok j3 =>
        obtain ⟨q1, q2, q3, q4⟩ := mustP_ok e3
        have sg3 : sgI t (skp t b3) = 44 := (word_sg (by decide) (by decide) (by decide)).1 q4
        have c3 := ref_wantY t b3 pl 44 hl (by omega) sg3
        have n3 := sg_nxt (by decide) (by decide) q4
        have l3 := sgI_lt sg3 (by decide)
        simp only
        rw [q3, n3]
        obtain ⟨b4, hb4⟩ : ∃ b, skp t b3 + 1 = b := ⟨_, rfl⟩
        rw [hb4] at c3 ⊢
        have lb4 : b4 ≤ t.length := by omega
        cases e4 : numP t 2 8 (skp t b4) with
        | error x =>
          have c4 := ref_expN t b4 2 8 pl hl (by omega) x e4
          obtain ⟨v, hv⟩ : ∃ v, dgI t (skp t b4) = v := ⟨_, rfl⟩
          rw [hv] at c4
          have q0 : x.2 ≠ 0 := by rcases numP_er e4 with h | h <;> rw [h] <;> simp
          have s4 := skp_skp t b4
          have mm := skp_max t b4
          generalize skp t b4 = i4 at *
          have c5 := ref_wantE t (i4 + 1) x.2 x.1 41 hl (by omega) q0 (by decide)
          have mm5 := skp_max t (i4 + 1)
          have ss5 := skp_skp t (i4 + 1)
          generalize skp t (i4 + 1) = i5 at *
          refine ⟨[((2 : Int), s, (v : Int))], i5, by omega, by simp, ?_⟩
          show RetB _ _ _ _ _ (lookB (rW t i5 x.2 x.1))
          clear hw hs hk hi wr ss en hdg
          rw [← hb1] at c1
          refine retB_of_awp tab [600] Try.func100 rfl rfl rfl (Nat.le_of_ble_eq_true rfl) rfl ⟨Nat.le_refl _, trivial⟩ (fun w0 F0 A io0 => ?_)
          repeat' (first | refine wG ?_ | refine wD [] k ?_ | refine wD [] d ?_ | refine wD [] w ?_ | refine wD [] c1 ?_ | refine wD [] c2 ?_ | refine wD [] c3 ?_ | refine wD [] c4 ?_ | refine wD [] c5 ?_ | refine wR ?_ | refine wS ?_ ?_ <;> intro _ | refine wB ?_ ?_ | refine wF ?_)
          all_goals first | exact leVT | exact ⟨rdEq (by omega), trivial⟩ | exact ⟨rfl, trivial⟩
        | ok p4 =>
          obtain ⟨n, j4⟩ := p4
          obtain ⟨q1, q2, q3, q4, q5, q6⟩ := numP_ok e4
          have c4 := ref_exp t b4 2 8 n j4 pl hl (by omega) e4
          have n4 := dig_nxt q6
          have l4 := (digP_lt q6).1
          simp only
          rw [q3, n4]
          obtain ⟨b5, hb5⟩ : ∃ b, skp t b4 + 1 = b := ⟨_, rfl⟩
          rw [hb5] at c4 ⊢
          have lb5 : b5 ≤ t.length := by omega
          cases e5 : mustP t 41 (skp t b5) with
          | error x =>
            obtain ⟨q1, q2⟩ := mustP_er e5
            have c5 := ref_wantN t b5 pl 41 hl (by omega) (fun h => q2 ((word_sg (by decide) (by decide) (by decide)).2 h))
            subst q1
            have s5 := skp_skp t b5
            have mm := skp_max t b5
            generalize skp t b5 = i5 at *
            refine ⟨[((2 : Int), s, (n : Int))], i5, by omega, by simp, ?_⟩
            show RetB _ _ _ _ _ (lookB (rW t i5 3 i5))
            clear hw hs hk hi wr ss en hdg q2
            rw [← hb1] at c1
            refine retB_of_awp tab [600] Try.func100 rfl rfl rfl (Nat.le_of_ble_eq_true rfl) rfl ⟨Nat.le_refl _, trivial⟩ (fun w0 F0 A io0 => ?_)
            repeat' (first | refine wG ?_ | refine wD [] k ?_ | refine wD [] d ?_ | refine wD [] w ?_ | refine wD [] c1 ?_ | refine wD [] c2 ?_ | refine wD [] c3 ?_ | refine wD [] c4 ?_ | refine wD [] c5 ?_ | refine wR ?_ | refine wS ?_ ?_ <;> intro _ | refine wB ?_ ?_ | refine wF ?_)
            all_goals first | exact leVT | exact ⟨rdEq (by omega), trivial⟩ | exact ⟨rfl, trivial⟩
          | ok j5 =>
            obtain ⟨q1, q2, q3, q4⟩ := mustP_ok e5
            have sg5 : sgI t (skp t b5) = 41 := (word_sg (by decide) (by decide) (by decide)).1 q4
            have c5 := ref_wantY t b5 pl 41 hl (by omega) sg5
            have n5 := sg_nxt (by decide) (by decide) q4
            have l5 := sgI_lt sg5 (by decide)
            simp only
            rw [q3, n5]
            obtain ⟨b6, hb6⟩ : ∃ b, skp t b5 + 1 = b := ⟨_, rfl⟩
            rw [hb6] at c5 ⊢
            have lb6 : b6 ≤ t.length := by omega
            refine ⟨b6, lb6, rfl, ?_⟩
            clear hw hs hk hi wr ss en hdg q1 q2 q3 q4
            rw [← hb1] at c1
            refine retB_of_awp tab [600] Try.func100 rfl rfl rfl (Nat.le_of_ble_eq_true rfl) rfl ⟨Nat.le_refl _, trivial⟩ (fun w0 F0 A io0 => ?_)
            repeat' (first | refine wG ?_ | refine wD [] k ?_ | refine wD [] d ?_ | refine wD [] w ?_ | refine wD [] c1 ?_ | refine wD [] c2 ?_ | refine wD [] c3 ?_ | refine wD [] c4 ?_ | refine wD [] c5 ?_ | refine wR ?_ | refine wS ?_ ?_ <;> intro _ | refine wB ?_ ?_ | refine wF ?_)
            all_goals first | exact leVT | exact ⟨rdEq (by omega), trivial⟩ | exact ⟨rfl, trivial⟩

theorem ref_primAtom (t : List UInt8) (a : Nat) (pl : Int) (hl : t.length < 1000000) (ha : a ≤ t.length) (hw : word t (skp t a) ≠ [40]) : RdR 100 priA t a pl (atomP t (skp t a)) := by
  unfold atomP
  have hmx := skp_max t a
  have ss := skp_skp t a
  have hs : sgI t (skp t a) ≠ 40 := fun h => hw ((word_sg (by decide) (by decide) (by decide)).2 h)
  have k := ref_take t a 0 pl _ 40 hl (by omega) (.inl ⟨rfl, rfl⟩)
  rw [if_neg hs, decide_eq_false hs] at k
  have d := ref_digit t (skp t a) pl hl (by omega)
  rw [ss] at d
  by_cases h0 : word t (skp t a) = [48]
  · rw [if_pos h0]
    have q := (word_d0 t (skp t a)).1 h0
    rw [dig_nxt q]
    have hlt := (digP_lt q).1
    unfold dgI at d
    rw [q] at d
    dsimp only at d
    refine ⟨skp t a + 1, by omega, rfl, ?_⟩
    generalize skp t a = i at *
    clear hw hs h0 q
    refine retB_of_awp tab [600] Try.func100 rfl rfl rfl (Nat.le_of_ble_eq_true rfl) rfl ⟨Nat.le_refl _, trivial⟩ (fun w0 F0 A io0 => ?_)
    repeat' (first | refine wG ?_ | refine wD [] k ?_ | refine wD [] d ?_ | refine wR ?_ | refine wS ?_ ?_ <;> intro _ | refine wB ?_ ?_ | refine wF ?_)
    all_goals first | exact leVT | exact ⟨rdEq (by omega), trivial⟩
  rw [if_neg h0]
  by_cases h1 : word t (skp t a) = [49]
  · rw [if_pos h1]
    have q := (word_d1 t (skp t a)).1 h1
    rw [dig_nxt q]
    have hlt := (digP_lt q).1
    unfold dgI at d
    rw [q] at d
    dsimp only at d
    refine ⟨skp t a + 1, by omega, rfl, ?_⟩
    generalize skp t a = i at *
    clear hw hs h0 h1 q
    refine retB_of_awp tab [600] Try.func100 rfl rfl rfl (Nat.le_of_ble_eq_true rfl) rfl ⟨Nat.le_refl _, trivial⟩ (fun w0 F0 A io0 => ?_)
    repeat' (first | refine wG ?_ | refine wD [] k ?_ | refine wD [] d ?_ | refine wR ?_ | refine wS ?_ ?_ <;> intro _ | refine wB ?_ ?_ | refine wF ?_)
    all_goals first | exact leVT | exact ⟨rdEq (by omega), trivial⟩
  rw [if_neg h1]
  by_cases h2 : word t (skp t a) = pwB
  · rw [if_pos h2]
    exact ref_primPow t a pl hl ha h2
  rw [if_neg h2]
  have w := ref_word t (skp t a) pl hl (by omega)
  rw [ss] at w
  have hv : ¬ wordR t (skp t a) = [112, 111, 119, 101, 114] := fun e => h2 ((wordR_pw t (skp t a)).1 e)
  have n0 : dgI t (skp t a) ≠ 0 ∧ dgI t (skp t a) ≠ 1 := by
    unfold dgI
    cases hd : digP t (skp t a) with
    | none => simp
    | some n =>
      refine ⟨fun e => h0 ((word_d0 _ _).2 ?_), fun e => h1 ((word_d1 _ _).2 ?_)⟩
      · rw [hd]; simp only at e; congr 1; omega
      · rw [hd]; simp only at e; congr 1; omega
  unfold varP
  have hle := wend_le t (skp t a)
  cases e : nameP t (skp t a) with
  | error x =>
    obtain ⟨q1, q2⟩ := nameP_er e
    have n := ref_nameN t (skp t a) pl hl (by omega) (by rw [ss]; exact q2)
    subst q1
    rw [ss] at n
    refine ⟨[g0], skp t a, by omega, by simp, ?_⟩
    show RetB _ _ _ _ _ (lookB (rW t (skp t a) 3 (skp t a)))
    generalize wordR t (skp t a) = v at *
    generalize dgI t (skp t a) = dd at *
    generalize skp t a = i at *
    clear hw hs h0 h1 h2 e q2
    refine retB_of_awp tab [600] Try.func100 rfl rfl rfl (Nat.le_of_ble_eq_true rfl) rfl ⟨Nat.le_refl _, trivial⟩ (fun w0 F0 A io0 => ?_)
    repeat' (first | refine wG ?_ | refine wD [] k ?_ | refine wD [] d ?_ | refine wD [] w ?_ | refine wD [] n ?_ | refine wR ?_ | refine wS ?_ ?_ <;> intro _ | refine wB ?_ ?_ | refine wF ?_)
    all_goals first | exact leVT | exact ⟨rfl, trivial⟩
  | ok p =>
    obtain ⟨s, j⟩ := p
    obtain ⟨q1, q2, q3, q4, q5⟩ := nameP_ok e
    have n := ref_nameY t (skp t a) pl hl (by omega) (by rw [ss, ← q4]; exact q5)
    rw [ss, ← q4] at n
    refine ⟨wend t (skp t a), by omega, q3.symm, ?_⟩
    generalize wordR t (skp t a) = v at *
    generalize dgI t (skp t a) = dd at *
    clear hw hs h0 h1 h2 e q1 q2 q3 q4 q5
    generalize wend t (skp t a) = b at *
    generalize skp t a = i at *
    refine retB_of_awp tab [600] Try.func100 rfl rfl rfl (Nat.le_of_ble_eq_true rfl) rfl ⟨Nat.le_refl _, trivial⟩ (fun w0 F0 A io0 => ?_)
    repeat' (first | refine wG ?_ | refine wD [] k ?_ | refine wD [] d ?_ | refine wD [] w ?_ | refine wD [] n ?_ | refine wR ?_ | refine wS ?_ ?_ <;> intro _ | refine wB ?_ ?_ | refine wF ?_)
    all_goals first | exact leVT | exact ⟨rfl, trivial⟩
theorem ref_primStep (t : List UInt8) (a : Nat) (pl : Int) (hl : t.length < 1000000) (ha : a ≤ t.length) (IH : ∀ b o, skp t a < skp t b → b ≤ t.length → Rs t (.lev 0) (skp t b) o → RdR 55 (binA 1) t b pl o) (o : Pos (List Nd)) (h : Rs t .pri (skp t a) o) : RdR 100 priA t a pl o := by
  have key : ∀ (o' : Pos (List Nd)), word t (skp t a) = [40] → Rs t (.lev 0) (nxt t (skp t a)) o' → RdR 55 (binA 1) t (skp t a + 1) pl o' ∧ Goes t (.lev 0) (nxt t (skp t a)) o' := fun o' hw h1 => by
    have hn := sg_nxt (by decide) (by decide) hw
    have hlt := lt_of_word (t := t) (i := skp t a) (by rw [hw]; simp)
    have hg := nxt_gt hlt
    rw [hn] at hg
    exact ⟨IH _ _ hg (by omega) (by rw [← hn]; exact h1), h1.goes (at_nxt t _)⟩
  cases h with
  | atom hw => exact ref_primAtom t a pl hl ha hw
  | brE hw h1 => exact ref_primBr t a pl hl ha hw _ (key _ hw h1).1 (key _ hw h1).2 _ rfl
  | brX hw h1 h2 => exact ref_primBr t a pl hl ha hw _ (key _ hw h1).1 (key _ hw h1).2 _ (.inl ⟨_, h2, rfl⟩)
  | brO hw h1 h2 => exact ref_primBr t a pl hl ha hw _ (key _ hw h1).1 (key _ hw h1).2 _ (.inr ⟨_, h2, rfl⟩)
end Go.Proofs.Ytjooknpgcjicbaa

/-
  The reference's reader: expressions by their rules. Conditions: the text is not too long.
-/
set_option maxHeartbeats 8000000
namespace Go.Proofs.Ytjooknpgcjicbaa
open Go.Vw
attribute [local irreducible] awp awpL awpR

inductive RaiL (t : List UInt8) (pl : Int) : List Nd → Nat → Int → Int → List Nd → Nat → Prop where
  | stop {e a} (h : word t (skp t a) ≠ [94]) : RaiL t pl e a 0 pl e (skp t a)
  | err {e a x} (h : word t (skp t a) = [94]) (h1 : numP t 1 6 (skp t (skp t a + 1)) = .error x) : RaiL t pl e a x.2 x.1 (((10 : Int), [], dgI t (skp t (skp t a + 1))) :: e) (skp t (skp t (skp t a + 1) + 1))
  | step {e a n j q1 q2 M A} (h : word t (skp t a) = [94]) (h1 : numP t 1 6 (skp t (skp t a + 1)) = .ok (n, j)) (h2 : RaiL t pl (((10 : Int), [], (n : Int)) :: e) (skp t (skp t a + 1) + 1) q1 q2 M A) : RaiL t pl e a q1 q2 M A
def RaiG (t : List UInt8) (pl : Int) (e : List Nd) (a i : Nat) : Pos (List Nd) → Prop
  | .ok (E, j) => ∃ A, A ≤ t.length ∧ skp t A = j ∧ RaiL t pl e a 0 pl E A
  | .error x => ∃ M A, A ≤ t.length + 1 ∧ M.length ≤ e.length + (t.length - i) + 1 ∧ x.2 ≠ 0 ∧ RaiL t pl e a x.2 x.1 M A
theorem RaiL.of {t : List UInt8} (pl : Int) {k : Kd} {i : Nat} {o : Pos (List Nd)} (h : Rs t k i o) : ∀ e a, k = .rai e → skp t a = i → a ≤ t.length → RaiG t pl e a i o := by
  induction h with
  | @rai0 e i h =>
    intro e' a hk hi ha
    cases hk
    subst hi
    have := skp_max t a
    exact ⟨skp t a, by omega, skp_skp t a, .stop h⟩
  | @raiX e i x h h1 =>
    intro e' a hk hi ha
    cases hk
    subst hi
    have hn := sg_nxt (by decide) (by decide) h
    have hlt := lt_of_word (t := t) (i := skp t a) (by rw [h]; simp)
    rw [hn] at h1
    have m1 := skp_max t (skp t a + 1)
    have m2 := skp_max t (skp t (skp t a + 1) + 1)
    exact ⟨_, _, by omega, by simp only [List.length_cons]; omega, (by rcases numP_er h1 with q | q <;> rw [q] <;> simp), .err h h1⟩
  | @raiN e i n j o h h1 h2 ih =>
    intro e' a hk hi ha
    cases hk
    subst hi
    have hn := sg_nxt (by decide) (by decide) h
    have hlt := lt_of_word (t := t) (i := skp t a) (by rw [h]; simp)
    rw [hn] at h1
    obtain ⟨q1, q2, q3, q4, q5, q6⟩ := numP_ok h1
    have hd := dig_nxt q6
    have l1 := (digP_lt q6).1
    have g1 := skp_ge t (skp t a + 1)
    have := ih ((10, [], (n : Int)) :: e) (skp t (skp t a + 1) + 1) rfl (by rw [q3, hd]) (by omega)
    cases o with
    | ok p =>
      obtain ⟨E, j2⟩ := p
      obtain ⟨A, r1, r2, r3⟩ := this
      exact ⟨A, r1, r2, .step h h1 r3⟩
    | error x =>
      obtain ⟨M, A, r1, r2, r3, r4⟩ := this
      exact ⟨M, A, r1, by simp only [List.length_cons] at r2; omega, r3, .step h h1 r4⟩
  | levE _ _ _ => intro e a hk; cases hk
  | levO _ _ _ _ _ => intro e a hk; cases hk
  | raiE _ _ => intro e a hk; cases hk
  | raiO _ _ _ _ => intro e a hk; cases hk
  | bin0 _ => intro e a hk; cases hk
  | binE _ _ _ => intro e a hk; cases hk
  | binO _ _ _ _ _ => intro e a hk; cases hk
  | atom _ => intro e a hk; cases hk
  | brE _ _ _ => intro e a hk; cases hk
  | brX _ _ _ _ => intro e a hk; cases hk
  | brO _ _ _ _ => intro e a hk; cases hk
abbrev RS : Type := List Nd × Nat × Int × Int
theorem raised_walk (t : List UInt8) (a0 : Nat) (pl : Int) (hl : t.length < 1000000) (e0 : List Nd) (b0 : Nat) (er0 p0 : Int) (hp : RetB Try.prog 100 priA (lookB (rW t a0 0 pl)) (.d (ndsD e0)) (lookB (rW t b0 er0 p0))) (q1 q2 : Int) (M : List Nd) (Z : Nat) (hA : Z ≤ t.length + 1) (hb0 : b0 ≤ t.length + 1) (he0 : e0.length ≤ 2000000) (hM : M.length ≤ 3000000) (h : (er0 = 0 ∧ p0 = pl ∧ b0 ≤ t.length ∧ RaiL t pl e0 b0 q1 q2 M Z) ∨ (er0 ≠ 0 ∧ er0 = q1 ∧ p0 = q2 ∧ e0 = M ∧ Z = skp t b0)) : RetB Try.prog 85 priA (lookB (rW t a0 0 pl)) (.d (ndsD M)) (lookB (rW t Z q1 q2)) := by
  refine retB_of_awp tab [600] Try.func85 rfl rfl rfl (Nat.le_of_ble_eq_true rfl) rfl ⟨Nat.le_refl _, trivial⟩ (fun w0 F0 A io0 => ?_)
  repeat' (first | refine wG ?_ | refine wD [] hp ?_ | refine wR ?_ | refine wS ?_ ?_ <;> intro _ | refine wB ?_ ?_ | refine wF ?_)
  refine awp_loop1 (fun (s : RS) => ([(0, .ptr 600 0), (3, .d (ndsD s.1))], rW t s.2.1 s.2.2.1 s.2.2.2)) (fun s => s.1.length ≤ 3000000 ∧ ((s.2.2.1 = 0 ∧ s.2.2.2 = pl ∧ s.2.1 ≤ t.length ∧ s.1.length ≤ e0.length + s.2.1 ∧ RaiL t pl s.1 s.2.1 q1 q2 M Z) ∨ (s.2.2.1 ≠ 0 ∧ s.2.2.1 = q1 ∧ s.2.2.2 = q2 ∧ s.1 = M ∧ s.2.1 ≤ t.length + 1 ∧ skp t s.2.1 = Z))) (fun s => if s.2.2.1 = 0 then t.length - s.2.1 + 1 else 0) (e0, b0, er0, p0) ⟨by simp only; omega, by rcases h with h | h; exact .inl ⟨h.1, h.2.1, h.2.2.1, by simp only; omega, h.2.2.2⟩; exact .inr ⟨h.1, h.2.1, h.2.2.1, h.2.2.2.1, hb0, h.2.2.2.2.symm⟩⟩ ⟨rfl, rfl, rfl⟩ ⟨rfl, trivial⟩ (fun s hs => ?_)
  obtain ⟨e, a, er, p2⟩ := s
  simp only at hs ⊢
  obtain ⟨hle, hs⟩ := hs
  clear h hp
  rcases hs with ⟨h1, h2, h3, h3b, h4⟩ | ⟨h1, h2, h3, h4, h5, h6⟩
  · have h2 := h2.symm
    subst h1 h2
    have hmx := skp_max t a
    have k := ref_take t a 0 pl _ 94 hl (by omega) (.inl ⟨rfl, rfl⟩)
    cases h4 with
    | stop hw =>
      have hs : sgI t (skp t a) ≠ 94 := fun h => hw ((word_sg (by decide) (by decide) (by decide)).2 h)
      rw [if_neg hs, decide_eq_false hs] at k
      generalize skp t a = i at *
      clear hw hs
      repeat' (first | refine wG ?_ | refine wD [] k ?_ | refine wR ?_ | refine wS ?_ ?_ <;> intro _ | refine wB ?_ ?_ | refine wF ?_)
      all_goals first | exact leVT | exact ⟨rfl, trivial⟩
    | @err _ _ x hw hn =>
      have hs : sgI t (skp t a) = 94 := (word_sg (by decide) (by decide) (by decide)).1 hw
      have hlt := sgI_lt hs (by decide)
      rw [if_pos hs, decide_eq_true hs] at k
      have c := ref_expN t (skp t a + 1) 1 6 pl hl (by omega) x hn
      have hx : x.2 ≠ 0 := by rcases numP_er hn with q | q <;> rw [q] <;> simp
      generalize dgI t (skp t (skp t a + 1)) = v at *
      have op := ref_operation 10 v [] [e] (by simp; omega) (by simp)
      rw [show ([e] : List (List Nd)).flatten = e by simp] at op
      have m2 := skp_max t (skp t a + 1)
      generalize skp t a = i at *
      generalize skp t (i + 1) = i2 at *
      clear hw hs hn
      repeat' (first | refine wG ?_ | refine wD [] k ?_ | refine wD [] c ?_ | refine wC op ?_ | refine wR ?_ | refine wS ?_ ?_ <;> intro _ | refine wB ?_ ?_ | refine wF ?_)
      exact ⟨((10, [], v) :: e, i2 + 1, x.2, x.1), ⟨by simp only; omega, .inr ⟨hx, rfl, rfl, rfl, by simp only; omega, rfl⟩⟩, by simp only [if_neg hx, if_true]; omega, ⟨rfl, rfl, rfl⟩, rfl, trivial⟩
    | @step _ _ n j _ _ _ _ hw hn h5 =>
      have hs : sgI t (skp t a) = 94 := (word_sg (by decide) (by decide) (by decide)).1 hw
      have hlt := sgI_lt hs (by decide)
      have hge := skp_ge t a
      rw [if_pos hs, decide_eq_true hs] at k
      have c := ref_exp t (skp t a + 1) 1 6 n j pl hl (by omega) hn
      have op := ref_operation 10 n [] [e] (by simp; omega) (by simp)
      rw [show ([e] : List (List Nd)).flatten = e by simp] at op
      have m2 := skp_ge t (skp t a + 1)
      have l2 := (digP_lt (numP_ok hn).2.2.2.2.2).1
      generalize skp t a = i at *
      generalize skp t (i + 1) = i2 at *
      clear hw hs hn
      repeat' (first | refine wG ?_ | refine wD [] k ?_ | refine wD [] c ?_ | refine wC op ?_ | refine wR ?_ | refine wS ?_ ?_ <;> intro _ | refine wB ?_ ?_ | refine wF ?_)
      exact ⟨((10, [], (n : Int)) :: e, i2 + 1, 0, pl), ⟨by simp only [List.length_cons]; omega, .inl ⟨rfl, rfl, by simp only; omega, by simp only [List.length_cons]; omega, h5⟩⟩, by simp only [if_true]; omega, ⟨rfl, rfl, rfl⟩, rfl, trivial⟩
  · subst h4 h6
    have k := ref_take t a er p2 0 94 hl (by omega) (.inr ⟨h1, rfl⟩)
    rw [if_neg (by decide), decide_eq_false (by decide)] at k
    subst h2 h3
    generalize skp t a = i at *
    repeat' (first | refine wG ?_ | refine wD [] k ?_ | refine wR ?_ | refine wS ?_ ?_ <;> intro _ | refine wB ?_ ?_ | refine wF ?_)
    all_goals first | exact leVT | exact ⟨rfl, trivial⟩
theorem ref_raisedStep (t : List UInt8) (a : Nat) (pl : Int) (hl : t.length < 1000000) (ha : a ≤ t.length) (IH : ∀ o, Rs t .pri (skp t a) o → RdR 100 priA t a pl o) (o : Pos (List Nd)) (h : Rs t (.lev 3) (skp t a) o) : RdR 85 priA t a pl o := by
  have hmx := skp_max t a
  have hat : At t (skp t a) := ⟨by omega, skp_skp t a⟩
  cases h with
  | levE h => omega
  | levO h => omega
  | @raiE _ x h1 =>
    obtain ⟨M, a', b1, b2, b3⟩ := IH _ h1
    have hx : x.2 ≠ 0 := by have : ErrIn t (skp t a) x := h1.goes hat; have := this.2.2.2; omega
    have hm := skp_max t a'
    exact ⟨M, skp t a', by omega, b2, raised_walk t a pl hl M a' x.2 x.1 b3 _ _ M (skp t a') (by omega) b1 (by omega) (by omega) (.inr ⟨hx, rfl, rfl, rfl, rfl⟩)⟩
  | @raiO _ e j _ h1 h2 =>
    obtain ⟨a', b1, b2, b3⟩ := IH _ h1
    have g : Goes t .pri (skp t a) (.ok (e, j)) := h1.goes hat
    have g1 := g.1.le
    have g3 := g.2.2.1
    have g2 := g.2.1
    simp only [Kd.pre] at g3
    have r := RaiL.of pl h2 e a' rfl b2 b1
    cases o with
    | ok p =>
      obtain ⟨E, j2⟩ := p
      obtain ⟨Z, r1, r2, r3⟩ := r
      have g' : Goes t (.lev 3) (skp t a) (.ok (E, j2)) := (Rs.raiO h1 h2).goes hat
      have g4 := g'.2.2.1
      have g5 := g'.1.le
      simp only [Kd.pre] at g4
      exact ⟨Z, r1, r2, raised_walk t a pl hl e a' 0 pl b3 0 pl E Z (by omega) (by omega) (by omega) (by omega) (.inl ⟨rfl, rfl, b1, r3⟩)⟩
    | error x =>
      obtain ⟨M, Z, r1, r2, r3, r4⟩ := r
      exact ⟨M, Z, r1, by omega, raised_walk t a pl hl e a' 0 pl b3 _ _ M Z r1 (by omega) (by omega) (by omega) (.inl ⟨rfl, rfl, b1, r4⟩)⟩
end Go.Proofs.Ytjooknpgcjicbaa

/-
  The reference's reader: operations with two operands, whole expressions. Conditions: the text is not too long.
-/
set_option maxHeartbeats 8000000
namespace Go.Proofs.Ytjooknpgcjicbaa
open Go.Vw
attribute [local irreducible] awp awpL awpR

theorem opOf_nxt {t : List UInt8} {r i : Nat} {op : Int} (h : opOf r (word t i) = some op) : nxt t i = skp t (i + 1) := by
  unfold opOf at h
  repeat' split at h
  all_goals first | (rename_i hw; exact sg_nxt (by decide) (by decide) hw) | cases h
inductive BinL (t : List UInt8) (r : Nat) (pl : Int) : List Nd → Nat → Int → Int → List Nd → Nat → Prop where
  | stop {e : List Nd} {i : Nat} (h : opOf r (word t i) = none) : BinL t r pl e i 0 pl e i
  | err {e : List Nd} {i : Nat} {op : Int} {M : List Nd} {a' : Nat} {x : PErr} (h : opOf r (word t i) = some op) (hx : x.2 ≠ 0) (ha : a' ≤ t.length + 1) (hM : M.length ≤ 1000002) (h1 : RetB Try.prog 55 (binA (r + 1 + 1)) (lookB (rW t (i + 1) 0 pl)) (.d (ndsD M)) (lookB (rW t a' x.2 x.1))) : BinL t r pl e i x.2 x.1 ((op, [], (0 : Int)) :: (e ++ M)) (skp t a')
  | step {e : List Nd} {i : Nat} {op : Int} {e2 : List Nd} {a' : Nat} {q1 q2 : Int} {M : List Nd} {Z : Nat} (h : opOf r (word t i) = some op) (ha : a' ≤ t.length) (he : e2.length + i + 1 ≤ skp t a') (h1 : RetB Try.prog 55 (binA (r + 1 + 1)) (lookB (rW t (i + 1) 0 pl)) (.d (ndsD e2)) (lookB (rW t a' 0 pl))) (h2 : BinL t r pl ((op, [], (0 : Int)) :: (e ++ e2)) (skp t a') q1 q2 M Z) : BinL t r pl e i q1 q2 M Z
def BinG (t : List UInt8) (r : Nat) (pl : Int) (e : List Nd) (i : Nat) : Pos (List Nd) → Prop
  | .ok (E, j) => BinL t r pl e i 0 pl E j
  | .error x => ∃ M Z, Z ≤ t.length + 1 ∧ M.length ≤ e.length + (t.length - i) + 2 ∧ x.2 ≠ 0 ∧ BinL t r pl e i x.2 x.1 M Z
theorem BinL.of {t : List UInt8} (hl : t.length < 1000000) (r0 : Nat) (pl : Int) (i0 : Nat) (IH : ∀ b o, i0 < b → b ≤ t.length → Rs t (.lev (r0 + 1)) (skp t b) o → RdR 55 (binA (r0 + 1 + 1)) t b pl o) {k : Kd} {i : Nat} {o : Pos (List Nd)} (h : Rs t k i o) : ∀ e, k = .bin r0 e → At t i → i0 ≤ i → BinG t r0 pl e i o := by
  induction h with
  | @bin0 r e i h =>
    intro e' hk hi h0
    cases hk
    exact .stop h
  | @binE r e i op x h h1 _ =>
    intro e' hk hi h0
    cases hk
    have hlt := opOf_lt h
    have hn := opOf_nxt h
    have hx : x.2 ≠ 0 := by have g : ErrIn t (nxt t i) x := h1.goes (at_nxt t i); have := g.2.2.2; omega
    rw [hn] at h1
    obtain ⟨M, a', b1, b2, b3⟩ := IH (i + 1) _ (by omega) (by omega) h1
    have hm := skp_max t a'
    have hge := skp_ge t (i + 1)
    exact ⟨_, _, by omega, by simp only [List.length_cons, List.length_append]; omega, hx, .err h hx b1 (by omega) b3⟩
  | @binO r e i op e2 j o h h1 h2 _ ih =>
    intro e' hk hi h0
    cases hk
    have hlt := opOf_lt h
    have hn := opOf_nxt h
    have g : Goes t (.lev (r0 + 1)) (nxt t i) (.ok (e2, j)) := h1.goes (at_nxt t i)
    have g1 := g.1
    have g2 := g.2.1
    have g3 := g.2.2.1
    simp only [Kd.pre] at g3
    rw [hn] at h1 g2 g3
    obtain ⟨a', b1, b2, b3⟩ := IH (i + 1) _ (by omega) (by omega) h1
    have hge := skp_ge t (i + 1)
    have gj := g1.le
    have q := ih _ rfl g1 (by omega)
    subst b2
    cases o with
    | ok p =>
      obtain ⟨E, j2⟩ := p
      exact .step h b1 (by omega) b3 q
    | error x =>
      obtain ⟨M, Z, r1, r2, r3, r4⟩ := q
      simp only [List.length_cons, List.length_append] at r2
      exact ⟨M, Z, r1, by omega, r3, .step h b1 (by omega) b3 r4⟩
  | levE _ _ _ => intro e hk; cases hk
  | levO _ _ _ _ _ => intro e hk; cases hk
  | raiE _ _ => intro e hk; cases hk
  | raiO _ _ _ _ => intro e hk; cases hk
  | rai0 _ => intro e hk; cases hk
  | raiX _ _ => intro e hk; cases hk
  | raiN _ _ _ _ => intro e hk; cases hk
  | atom _ => intro e hk; cases hk
  | brE _ _ _ => intro e hk; cases hk
  | brX _ _ _ _ => intro e hk; cases hk
  | brO _ _ _ _ => intro e hk; cases hk
abbrev BS : Type := List Nd × Nat × Int × Int × Int
theorem binary_walk (t : List UInt8) (a0 : Nat) (pl : Int) (hl : t.length < 1000000) (r : Nat) (hr : r < 3) (e0 : List Nd) (b0 : Nat) (er0 p0 : Int) (hp : RetB Try.prog 55 (binA (r + 1 + 1)) (lookB (rW t a0 0 pl)) (.d (ndsD e0)) (lookB (rW t b0 er0 p0))) (q1 q2 : Int) (M : List Nd) (Z : Nat) (hA : Z ≤ t.length + 1) (hb0 : b0 ≤ t.length + 1) (he0 : e0.length ≤ 2000000) (hM : M.length ≤ 3000000) (h : (er0 = 0 ∧ p0 = pl ∧ b0 ≤ t.length ∧ BinL t r pl e0 (skp t b0) q1 q2 M Z) ∨ (er0 ≠ 0 ∧ er0 = q1 ∧ p0 = q2 ∧ e0 = M ∧ Z = skp t b0)) : RetB Try.prog 55 (binA (r + 1)) (lookB (rW t a0 0 pl)) (.d (ndsD M)) (lookB (rW t Z q1 q2)) := by
  have hmx := skp_max t b0
  have ss := skp_skp t b0
  obtain ⟨v, hv⟩ : ∃ v, (er0 = 0 ∧ v = sgI t (skp t b0)) ∨ (er0 ≠ 0 ∧ v = 0) := by
    by_cases q : er0 = 0
    · exact ⟨_, .inl ⟨q, rfl⟩⟩
    · exact ⟨0, .inr ⟨q, rfl⟩⟩
  have sg := ref_sign t b0 er0 p0 v hl (by omega) hv
  have lv := ref_level v (r + 1)
  have hz : (er0 = 0 → lvI (r + 1) v = (opOf r (word t (skp t b0))).getD 0) ∧ (er0 ≠ 0 → lvI (r + 1) v = 0) := by
    rcases hv with q | q
    · exact ⟨fun _ => by rw [q.2]; exact lvI_op hr, fun w => absurd q.1 w⟩
    · exact ⟨fun w => absurd w q.1, fun _ => by rw [q.2]; unfold lvI; simp⟩
  generalize lvI (r + 1) v = z at *
  generalize skp t b0 = i0 at *
  refine retB_of_awp tab [600] Try.func55 rfl rfl rfl (Nat.le_of_ble_eq_true rfl) rfl ⟨Nat.le_refl _, trivial⟩ (fun w0 F0 A io0 => ?_)
  repeat' (first | refine wG ?_ | refine wD [] hp ?_ | refine wD [] sg ?_ | refine wC lv ?_ | refine wR ?_ | refine wS ?_ ?_ <;> intro _ | refine wB ?_ ?_ | refine wF ?_)
  refine awp_loop1 (fun (s : BS) => ([(0, .ptr 600 0), (1, .d (.int .i64 (r + 1))), (5, .d (ndsD s.1)), (6, .d (.int .i64 s.2.2.2.2))], rW t s.2.1 s.2.2.1 s.2.2.2.1)) (fun s => s.1.length ≤ 3000000 ∧ s.2.1 ≤ t.length + 1 ∧ ((s.2.2.1 = 0 ∧ s.2.2.2.1 = pl ∧ s.2.1 ≤ t.length ∧ s.2.2.2.2 = (opOf r (word t s.2.1)).getD 0 ∧ s.1.length ≤ e0.length + s.2.1 ∧ BinL t r pl s.1 s.2.1 q1 q2 M Z) ∨ (s.2.2.1 ≠ 0 ∧ s.2.2.2.2 = 0 ∧ s.2.2.1 = q1 ∧ s.2.2.2.1 = q2 ∧ s.1 = M ∧ s.2.1 = Z))) (fun s => if s.2.2.1 = 0 then t.length - s.2.1 + 1 else 0) (e0, i0, er0, p0, z) ⟨by simp only; omega, by simp only; omega, by rcases h with h | h; exact .inl ⟨h.1, h.2.1, by simp only; omega, hz.1 h.1, by simp only; omega, h.2.2.2⟩; exact .inr ⟨h.1, hz.2 h.1, h.2.1, h.2.2.1, h.2.2.2.1, h.2.2.2.2.symm⟩⟩ ⟨rfl, rfl, rfl, rfl, rfl⟩ ⟨rfl, trivial⟩ (fun s hs => ?_)
  obtain ⟨e, i, er, p2, op⟩ := s
  simp only at hs ⊢
  obtain ⟨hle, hi1, hs⟩ := hs
  clear h hp sg lv hz hv hmx ss
  rcases hs with ⟨h1, h2, h3, h3b, h3c, h4⟩ | ⟨h1, h2, h3, h4, h5, h6⟩
  · have h2 := h2.symm
    subst h1 h2
    cases h4 with
    | stop hw =>
      rw [hw] at h3b
      have h3b : op = 0 := h3b
      subst h3b
      repeat' (first | refine wG ?_ | refine wR ?_ | refine wS ?_ ?_ <;> intro _ | refine wB ?_ ?_ | refine wF ?_)
      all_goals first | exact leVT | exact ⟨rfl, trivial⟩
    | @err _ _ op' M' a' x hw hx ha hM' c =>
      rw [hw] at h3b
      have h3b : op = op' := h3b
      subst h3b
      have ho := opOf_op hw
      have hlt := opOf_lt hw
      have hm := skp_max t a'
      have sg := ref_sign t a' x.2 x.1 0 hl (by omega) (.inr ⟨hx, rfl⟩)
      have lv := ref_level 0 (r + 1)
      have l0 : lvI (r + 1) 0 = 0 := by unfold lvI; simp
      rw [l0] at lv
      have fl : ([e, M'] : List (List Nd)).flatten = e ++ M' := by simp
      have cc := ref_operation op 0 [] [e, M'] (by rw [fl]; simp; omega) (by simp)
      rw [fl] at cc
      have hle2 : ((op, [], (0 : Int)) :: (e ++ M')).length ≤ 3000000 := hM
      generalize (op, [], (0 : Int)) :: (e ++ M') = E at *
      generalize skp t a' = i2 at *
      clear hw fl l0
      repeat' (first | refine wG ?_ | refine wD [] c ?_ | refine wD [] sg ?_ | refine wC lv ?_ | refine wC cc ?_ | refine wR ?_ | refine wS ?_ ?_ <;> intro _ | refine wB ?_ ?_ | refine wF ?_)
      exact ⟨(E, i2, x.2, x.1, 0), ⟨hle2, by simp only; omega, .inr ⟨hx, rfl, rfl, rfl, rfl, rfl⟩⟩, by simp only [if_neg hx, if_true]; omega, ⟨rfl, rfl, rfl, rfl, rfl⟩, rfl, trivial⟩
    | @step _ _ op' e2 a' _ _ _ _ hw ha he c h5 =>
      rw [hw] at h3b
      have h3b : op = op' := h3b
      subst h3b
      have ho := opOf_op hw
      have hlt := opOf_lt hw
      have hm := skp_max t a'
      have sg := ref_sign t a' 0 pl _ hl (by omega) (.inl ⟨rfl, rfl⟩)
      have lv := ref_level (sgI t (skp t a')) (r + 1)
      have l0 : lvI (r + 1) (sgI t (skp t a')) = _ := lvI_op hr
      have fl : ([e, e2] : List (List Nd)).flatten = e ++ e2 := by simp
      have cc := ref_operation op 0 [] [e, e2] (by rw [fl]; simp; omega) (by simp)
      rw [fl] at cc
      have hle2 : ((op, [], (0 : Int)) :: (e ++ e2)).length ≤ e0.length + skp t a' := by simp only [List.length_cons, List.length_append]; omega
      generalize (op, [], (0 : Int)) :: (e ++ e2) = E at *
      generalize skp t a' = i2 at *
      generalize sgI t i2 = v2 at *
      generalize lvI (r + 1) v2 = z2 at *
      clear hw fl
      repeat' (first | refine wG ?_ | refine wD [] c ?_ | refine wD [] sg ?_ | refine wC lv ?_ | refine wC cc ?_ | refine wR ?_ | refine wS ?_ ?_ <;> intro _ | refine wB ?_ ?_ | refine wF ?_)
      exact ⟨(E, i2, 0, pl, z2), ⟨by simp only; omega, by simp only; omega, .inl ⟨rfl, rfl, by simp only; omega, l0, hle2, h5⟩⟩, by simp only [if_true]; omega, ⟨rfl, rfl, rfl, rfl, rfl⟩, rfl, trivial⟩
  · subst h2 h5 h6 h3 h4
    repeat' (first | refine wG ?_ | refine wR ?_ | refine wS ?_ ?_ <;> intro _ | refine wB ?_ ?_ | refine wF ?_)
    all_goals first | exact leVT | exact ⟨rfl, trivial⟩
theorem ref_binaryStep (t : List UInt8) (a : Nat) (pl : Int) (hl : t.length < 1000000) (ha : a ≤ t.length) (r : Nat) (hr : r < 3) (IH : ∀ b o, a ≤ b → b ≤ t.length → Rs t (.lev (r + 1)) (skp t b) o → RdR 55 (binA (r + 1 + 1)) t b pl o) (o : Pos (List Nd)) (h : Rs t (.lev r) (skp t a) o) : RdR 55 (binA (r + 1)) t a pl o := by
  have hmx := skp_max t a
  have hge := skp_ge t a
  have hat : At t (skp t a) := ⟨by omega, skp_skp t a⟩
  cases h with
  | raiE h => omega
  | raiO h => omega
  | @levE _ _ x _ h1 =>
    obtain ⟨M, a', b1, b2, b3⟩ := IH a _ (Nat.le_refl _) ha h1
    have hx : x.2 ≠ 0 := by have : ErrIn t (skp t a) x := h1.goes hat; have := this.2.2.2; omega
    have hm := skp_max t a'
    exact ⟨M, skp t a', by omega, b2, binary_walk t a pl hl r hr M a' x.2 x.1 b3 _ _ M (skp t a') (by omega) b1 (by omega) (by omega) (.inr ⟨hx, rfl, rfl, rfl, rfl⟩)⟩
  | @levO _ _ e j _ _ h1 h2 =>
    obtain ⟨a', b1, b2, b3⟩ := IH a _ (Nat.le_refl _) ha h1
    have g : Goes t (.lev (r + 1)) (skp t a) (.ok (e, j)) := h1.goes hat
    have g1 := g.1.le
    have g3 := g.2.2.1
    have g2 := g.2.1
    simp only [Kd.pre] at g3
    have q := BinL.of hl r pl (skp t a) (fun b o hb hb2 h => IH b o (by omega) hb2 h) h2 e rfl g.1 g2
    subst b2
    cases o with
    | ok p =>
      obtain ⟨E, j2⟩ := p
      have g' : Goes t (.lev r) (skp t a) (.ok (E, j2)) := (Rs.levO hr h1 h2).goes hat
      have g4 := g'.2.2.1
      have g5 := g'.1.le
      simp only [Kd.pre] at g4
      exact ⟨j2, g5, g'.1.skp, binary_walk t a pl hl r hr e a' 0 pl b3 0 pl E j2 (by omega) (by omega) (by omega) (by omega) (.inl ⟨rfl, rfl, b1, q⟩)⟩
    | error x =>
      obtain ⟨M, Z, r1, r2, r3, r4⟩ := q
      exact ⟨M, Z, r1, by omega, binary_walk t a pl hl r hr e a' 0 pl b3 _ _ M Z r1 (by omega) (by omega) (by omega) (.inl ⟨rfl, rfl, b1, r4⟩)⟩
theorem ref_bin4 (t : List UInt8) (a : Nat) (pl : Int) (o : Pos (List Nd)) (h : RdR 85 priA t a pl o) : RdR 55 (binA (3 + 1)) t a pl o := by
  cases o with
  | ok p =>
    obtain ⟨e, j⟩ := p
    obtain ⟨a', b1, b2, b3⟩ := h
    refine ⟨a', b1, b2, ?_⟩
    refine retB_of_awp tab [600] Try.func55 rfl rfl rfl (Nat.le_of_ble_eq_true rfl) rfl ⟨Nat.le_refl _, trivial⟩ (fun w0 F0 A io0 => ?_)
    repeat' (first | refine wG ?_ | refine wD [] b3 ?_ | refine wR ?_ | refine wS ?_ ?_ <;> intro _ | refine wB ?_ ?_ | refine wF ?_)
    all_goals first | exact leVT | exact ⟨rfl, trivial⟩
  | error x =>
    obtain ⟨M, a', b1, b2, b3⟩ := h
    refine ⟨M, a', b1, b2, ?_⟩
    refine retB_of_awp tab [600] Try.func55 rfl rfl rfl (Nat.le_of_ble_eq_true rfl) rfl ⟨Nat.le_refl _, trivial⟩ (fun w0 F0 A io0 => ?_)
    repeat' (first | refine wG ?_ | refine wD [] b3 ?_ | refine wR ?_ | refine wS ?_ ?_ <;> intro _ | refine wB ?_ ?_ | refine wF ?_)
    all_goals first | exact leVT | exact ⟨rfl, trivial⟩
end Go.Proofs.Ytjooknpgcjicbaa

/-
  The reference's reader: the whole text. Conditions: the text is not too long.
-/
set_option maxHeartbeats 8000000
namespace Go.Proofs.Ytjooknpgcjicbaa
open Go.Vw
attribute [local irreducible] awp awpL awpR

abbrev fmT : TypeId := 24
def prsO : Except PErr (List UInt8 × List Nd) → Except PErr (List UInt8 × List Nd)
  | .error x => .error x
  | .ok (s, e) => if 64 < e.length then .error (0, 2) else .ok (s, e)
def prsD : Except PErr (List UInt8 × List Nd) → D
  | .error x => .tup [.agg [.str [], .nils], .int .i64 x.1, .int .i64 x.2]
  | .ok (s, e) => .tup [.agg [.str s, ndsD e], .int .i64 0, .int .i64 0]
theorem skp_mono {t : List UInt8} {a b : Nat} (h : a ≤ b) (hb : b ≤ t.length) : skp t a ≤ skp t b := by
  by_cases q : b ≤ skp t a
  · have l := runE_le isBl (t := t) (i := a) (by omega)
    have : skp t b = skp t a := runE_eq q l (fun k h1 h2 => runE_in isBl (by omega) h2) (fun h => runE_stop isBl h)
    omega
  · have := skp_ge t b
    omega
theorem ref_all (t : List UInt8) (pl : Int) (hl : t.length < 1000000) : ∀ (n : Nat) (a : Nat), a ≤ t.length → (∀ r o, r ≤ 3 → 6 * (t.length - skp t a) + (5 - r) ≤ n → Rs t (.lev r) (skp t a) o → RdR 55 (binA (r + 1)) t a pl o) ∧ (∀ o, 6 * (t.length - skp t a) + 1 ≤ n → Rs t .pri (skp t a) o → RdR 100 priA t a pl o) := by
  intro n
  induction n using Nat.strongRecOn with
  | _ n ih =>
    intro a ha
    have hm := skp_max t a
    refine ⟨fun r o hr hn h => ?_, fun o hn h => ?_⟩
    · by_cases h3 : r = 3
      · subst h3
        exact ref_bin4 t a pl o (ref_raisedStep t a pl hl ha (fun o h => (ih (n - 1) (by omega) a ha).2 o (by omega) h) o h)
      · exact ref_binaryStep t a pl hl ha r (by omega) (fun b o hab hb h => by
          have := skp_mono hab hb
          exact (ih (n - 1) (by omega) b hb).1 (r + 1) o (by omega) (by omega) h) o h
    · exact ref_primStep t a pl hl ha (fun b o hab hb h => by
          have := skp_max t b
          exact (ih (n - 1) (by omega) b hb).1 0 o (by omega) (by omega) h) o h
theorem ref_binary (t : List UInt8) (pl : Int) (hl : t.length < 1000000) (a : Nat) (ha : a ≤ t.length) (o : Pos (List Nd)) (h : Rs t (.lev 0) (skp t a) o) : RdR 55 (binA 1) t a pl o := (ref_all t pl hl _ a ha).1 0 o (by omega) (Nat.le_refl _) h
inductive Fm0 (t : List UInt8) : Except PErr (List UInt8 × List Nd) → Prop where
  | name {x} (h : nameP t (skp t 0) = .error x) : Fm0 t (.error x)
  | tilde {s i x} (h : nameP t (skp t 0) = .ok (s, i)) (h1 : mustP t 126 i = .error x) : Fm0 t (.error x)
  | right {s i j x} (h : nameP t (skp t 0) = .ok (s, i)) (h1 : mustP t 126 i = .ok j) (h2 : Rs t (.lev 0) j (.error x)) : Fm0 t (.error x)
  | rest {s i j e k} (h : nameP t (skp t 0) = .ok (s, i)) (h1 : mustP t 126 i = .ok j) (h2 : Rs t (.lev 0) j (.ok (e, k))) (h3 : word t k ≠ []) : Fm0 t (.error (k, 3))
  | done {s i j e k} (h : nameP t (skp t 0) = .ok (s, i)) (h1 : mustP t 126 i = .ok j) (h2 : Rs t (.lev 0) j (.ok (e, k))) (h3 : word t k = []) : Fm0 t (.ok (s, e))
theorem ref09_ParseO (t : List UInt8) (hl : t.length ≤ 65536) (nm : List UInt8) (e : List Nd) (h : Fm0 t (.ok (nm, e))) : Ret Try.prog 23 [.str t] (· = prsD (prsO (.ok (nm, e)))) := by
  have hm0 := skp_max t 0
  have h0 : At t (skp t 0) := ⟨runE_le _ (Nat.zero_le _), runE_idem (Nat.zero_le _)⟩
  have hl0 := h0.le
  cases h with
  | @done _ i j _ k h h1 h2 h3 =>
    obtain ⟨a1, a2, a3, a4, a5⟩ := nameP_ok h
    obtain ⟨b1, b2, b3, b4⟩ := mustP_ok h1
    have n := ref_nameY t 0 0 (by omega) (Nat.zero_le _) (a4 ▸ a5)
    rw [← a4] at n
    have hi : skp t (wend t (skp t 0)) = i := a3.symm
    have hw := wend_le t (skp t 0)
    have he : sgI t i = 126 := (word_sg (by decide) (by decide) (by decide)).1 b4
    have w := ref_wantY t (wend t (skp t 0)) 0 126 (by omega) (by omega) (by rw [hi]; exact he)
    rw [hi] at w
    generalize wend t (skp t 0) = b0 at *
    have hiL := lt_of_word (t := t) (i := i) (by rw [b4]; simp)
    have hn := sg_nxt (by decide) (by decide) b4
    rw [b3, hn] at h2
    have g : Goes t (.lev 0) (skp t (i + 1)) (.ok (e, k)) := h2.goes ⟨by have := skp_max t (i + 1); omega, skp_skp t _⟩
    have gk := g.1.le
    have ge := g.2.2.1
    simp only [Kd.pre] at ge
    have hk := (word_nil gk).1 h3
    obtain ⟨a', c1, c2, b⟩ := ref_binary t 0 (by omega) (i + 1) (by omega) _ h2
    have s := ref_sign t a' 0 0 0 (by omega) (by omega) (.inl ⟨rfl, by rw [c2]; unfold sgI; rw [if_neg (by omega)]⟩)
    rw [c2] at s
    clear h h1 h2 h3 h0 a5 a4 a3 a2 a1 b1 b2 b3 b4 hn g he hi
    unfold prsO
    simp only
    by_cases h64 : 64 < e.length
    · rw [if_pos h64]
      show Ret _ _ _ (· = .tup [.agg [.str [], .nils], .int .i64 0, .int .i64 2])
      refine ret_of_awp tab Try.func23 rfl rfl (Nat.le_of_ble_eq_true rfl) (fun w0 F0 => ?_)
      repeat' (first | refine stopA 4 tt ?_ | refine wG ?_ | refine rgX 10 11 [] ?_ | refine wR ?_ | refine wS ?_ ?_ <;> intro _ | refine finTG ?_)
      refine stopOut ?_
      refine awp_rename [(0, .d (.str t)), (2, .ptr 2 0), (3, .d (.int .i64 0)), (4, .d (.int .i64 0)), (5, .ptr 13 0)] [(2, .box fmT [.d (.str []), .d .nils]), (13, rdB t 0 0 0)] [(13, 600)] ⟨rfl, rfl, rfl, rfl, rfl, rfl⟩ ⟨rfl, rfl, trivial⟩ ?_
      repeat' (first | refine wG ?_ | refine wD [] n ?_ | refine wD [] w ?_ | refine wD [] b ?_ | refine wD [] s ?_ | refine rgX 10 11 [] ?_ | refine wR ?_ | refine wS ?_ ?_ <;> intro _ | refine finTG ?_)
      all_goals exact leT
    · rw [if_neg h64]
      show Ret _ _ _ (· = .tup [.agg [.str nm, ndsD e], .int .i64 0, .int .i64 0])
      refine ret_of_awp tab Try.func23 rfl rfl (Nat.le_of_ble_eq_true rfl) (fun w0 F0 => ?_)
      repeat' (first | refine stopA 4 tt ?_ | refine wG ?_ | refine rgX 10 11 [] ?_ | refine wR ?_ | refine wS ?_ ?_ <;> intro _ | refine finTG ?_)
      refine stopOut ?_
      refine awp_rename [(0, .d (.str t)), (2, .ptr 2 0), (3, .d (.int .i64 0)), (4, .d (.int .i64 0)), (5, .ptr 13 0)] [(2, .box fmT [.d (.str []), .d .nils]), (13, rdB t 0 0 0)] [(13, 600)] ⟨rfl, rfl, rfl, rfl, rfl, rfl⟩ ⟨rfl, rfl, trivial⟩ ?_
      repeat' (first | refine wG ?_ | refine wD [] n ?_ | refine wD [] w ?_ | refine wD [] b ?_ | refine wD [] s ?_ | refine rgX 10 11 [] ?_ | refine wR ?_ | refine wS ?_ ?_ <;> intro _ | refine finTG ?_)
      all_goals exact leT
end Go.Proofs.Ytjooknpgcjicbaa

/-
  Written formulas are read back, in brackets too. Conditions: none.
-/
namespace Go.Vw
theorem skp_bl {t r : List UInt8} {i : Nat} (h : t.drop i = 32 :: r) : skp t i = skp t (i + 1) := by
  have h2 := (getD_drop h).2.2
  unfold skp runE
  rw [h, h2]
  simp only [List.takeWhile, show isBl 32 = true by decide, List.length_cons]
  omega
def brN : Nat → List UInt8 → List UInt8
  | 0, s => s
  | n + 1, s => 40 :: 32 :: (brN n s ++ [32, 41, 32, 32])
theorem nb_brN {T : Ft} (hT : T.ok) (n : Nat) (r : List UInt8) : Nb (brN n T.pr ++ r) := by
  cases n with
  | zero => exact nb_pr hT r
  | succ n => exact nb_cons (by decide)
theorem brN_reads {t : List UInt8} {T : Ft} (hT : T.ok) : ∀ (n : Nat) {i : Nat} {r : List UInt8}, t.drop i = brN n T.pr ++ r → Cl r → Flw t 0 (skp t (i + (brN n T.pr).length)) → Reads t 0 i T.flat (skp t (i + (brN n T.pr).length))
  | 0, i, r, h, hr, hf => pr_reads t T hT 0 (Nat.zero_le _) (Nat.zero_le _) h hr hf
  | n + 1, i, r, h, hr, hf => by
    have h : t.drop i = 40 :: 32 :: (brN n T.pr ++ (32 :: 41 :: 32 :: 32 :: r)) := by rw [h]; simp [brN]
    obtain ⟨w1, w2⟩ := word_sign h (by decide) (by decide)
    have t1 := (getD_drop h).2.2
    have t2 := (getD_drop t1).2.2
    have l2 := (getD_drop t1).2.1
    have t3 := drop_app t2
    have l3 := (getD_drop t3).2.1
    have t4 := (getD_drop t3).2.2
    have l4 := (getD_drop t4).2.1
    have t5 := (getD_drop t4).2.2
    have t6 := (getD_drop t5).2.2
    have n0 : nxt t i = i + 1 + 1 := by
      unfold nxt; rw [w2, skp_bl t1]
      exact skp_here t2 (nb_brN hT n _) (by omega)
    generalize hL : (brN n T.pr).length = L at *
    have e3 : skp t (i + 1 + 1 + L) = i + 1 + 1 + L + 1 := by
      rw [skp_bl t3]; exact skp_here t4 (nb_cons (by decide)) (by omega)
    obtain ⟨w3, w4⟩ := word_sign t4 (by decide) (by decide)
    have hf2 : Flw t 0 (skp t (i + 1 + 1 + L)) := by
      rw [e3]
      refine ⟨fun q a b => ?_, fun _ => by rw [w3]; decide⟩
      rw [w3]
      have : q = 1 ∨ q = 2 := by omega
      rcases this with e | e <;> subst e <;> rfl
    have R := brN_reads hT n t2 (cl_cons (by decide)) (by rw [hL]; exact hf2)
    rw [hL, e3] at R
    have R := R.done (by omega) (fun _ => by rw [w3]; rfl) (by rw [w3]; decide)
    have m := mustP_sign t4 (by decide) (by decide)
    rw [skp_bl t5, skp_bl t6] at m
    have P := Rs.brO w1 (by rw [n0]; exact R) m
    have e6 : i + (brN (n + 1) T.pr).length = i + 1 + 1 + L + 1 + 1 + 1 + 1 := by
      simp only [brN, List.length_cons, List.length_append, hL, List.length_nil]; omega
    rw [e6] at hf ⊢
    exact Reads.of P (by omega) hf
def FmOk (t nm : List UInt8) (e : List Nd) : Prop := ∃ i j k, nameP t (skp t 0) = .ok (nm, i) ∧ mustP t 126 i = .ok j ∧ Rs t (.lev 0) j (.ok (e, k)) ∧ word t k = []
theorem fmOk_end {t : List UInt8} {T : Ft} (hT : T.ok) (n : Nat) {i : Nat} (h : t.drop i = brN n T.pr) (hi : i ≤ t.length) : ∃ k, Rs t (.lev 0) i (.ok (T.flat, k)) ∧ word t k = [] := by
  have he : i + (brN n T.pr).length = t.length := by
    have := congrArg List.length h
    simp only [List.length_drop] at this
    omega
  have hs : skp t t.length = t.length := by
    have := skp_max t t.length
    have := skp_ge t t.length
    omega
  have hw : word t t.length = [] := (word_nil (Nat.le_refl _)).2 rfl
  have R := brN_reads hT n (r := []) (by rw [h, List.append_nil]) cl_nil (by
    rw [he, hs]
    exact ⟨fun q a b => by rw [hw]; exact opOf_nil _, fun _ => by rw [hw]; simp⟩)
  rw [he, hs] at R
  exact ⟨_, R.done (by omega) (fun _ => by rw [hw]; exact opOf_nil _) (by rw [hw]; simp), hw⟩
theorem fmOk_pr {nm : List UInt8} {T : Ft} (h : isName nm = true) (hT : T.ok) : FmOk (nm ++ [32, 126, 32] ++ T.pr) nm T.flat := by
  generalize ht : nm ++ [32, 126, 32] ++ T.pr = t
  have d0 : t.drop 0 = nm ++ (32 :: 126 :: 32 :: T.pr) := by rw [← ht]; simp
  have e0 : skp t 0 = 0 := skp_here d0 (nb_name h) (by omega)
  have n := nameP_name d0 h (cl_cons (by decide))
  have t1 := drop_app d0
  have t2 := (getD_drop t1).2.2
  have l2 := (getD_drop t2).2.1
  have t3 := (getD_drop t2).2.2
  have l3 := (getD_drop t3).2.1
  have t4 := (getD_drop t3).2.2
  have m := mustP_sign t2 (by decide) (by decide)
  rw [skp_bl t1, skp_here t2 (nb_cons (by decide)) (by omega)] at n
  have nb := nb_pr hT []
  rw [List.append_nil] at nb
  rw [skp_bl t3, skp_here t4 nb (by omega)] at m
  obtain ⟨k, R, w⟩ := fmOk_end hT 0 t4 (by omega)
  exact ⟨_, _, k, by rw [e0]; exact n, m, R, w⟩
end Go.Vw

/-
  Models as they come in. Conditions: none.
-/
namespace Go.Vw
end Go.Vw

/-
  The law's check, and that both hold the same models valid. Conditions: as each says.
-/
set_option maxHeartbeats 8000000
namespace Go.Proofs.Ytjooknpgcjicbaa
open Go.Vw
attribute [local irreducible] awp awpL awpR

abbrev wkT : Ft := .bi 6 (.bi 8 (.leaf (1, [97], 0)) (.leaf (1, [98], 0))) (.leaf (1, [97], 0))
theorem wkT_ok : wkT.ok := by simp [Ft.ok, leafOk]; decide
theorem wk_text : ([121] : List UInt8) ++ [32, 126, 32] ++ wkT.pr = [121, 32, 126, 32, 97, 32, 42, 32, 98, 32, 45, 32, 97] := by decide +kernel
theorem wk_parse : Ret Try.prog 23 [.str [121, 32, 126, 32, 97, 32, 42, 32, 98, 32, 45, 32, 97]] (· = .tup [fmD [121] wkT.flat, .int .i64 0, .int .i64 0]) := by
  have h := fmOk_pr (nm := [121]) (T := wkT) (by decide) wkT_ok
  rw [wk_text] at h
  obtain ⟨i, j, k, h1, h2, h3, h4⟩ := h
  have := ref09_ParseO _ (by decide) [121] wkT.flat (.done h1 h2 h3 h4)
  unfold prsO at this
  simp only at this
  rw [if_neg (by decide)] at this
  exact this
theorem wk_valid : vld [121] wkT.flat = true := by
  unfold vld
  rw [cnt_built.2 ⟨wkT, rfl, wkT_ok⟩]
  decide
theorem wk_model : mdM (addT [] wkT) [0] wkT = some [0, 2, 3] := by decide +kernel
theorem wk_expand : Ret Try.prog 11 [fmD [121] wkT.flat] (· = .tup [mdD [121] true [[([98], 1)], [([97], 1), ([98], 1)]], .int .i64 0]) := by
  obtain ⟨C, h1, h2, h3⟩ := terms_ExpandOk [121] wkT.flat wkT (by decide) wk_valid rfl wkT_ok (by decide) [0, 2, 3] wk_model
  rw [show minusM [0, 2, 3] [0] = [2, 3] by decide +kernel] at h1
  have e : C = [2, 3] := by
    have hl := h1.length_eq
    match C, hl with
    | [x, y], _ =>
      have hx : x ∈ ([2, 3] : List Nat) := h1.mem_iff.1 (by simp)
      have hy : y ∈ ([2, 3] : List Nat) := h1.mem_iff.1 (by simp)
      have hn : [x, y].Nodup := h1.nodup_iff.2 (by decide)
      have ha := (List.pairwise_cons.1 h2).1 y (by simp)
      simp at hx hy hn
      rcases hx with rfl | rfl <;> rcases hy with rfl | rfl
      · exact absurd rfl hn
      · rfl
      · exact absurd ha (by decide +kernel)
      · exact absurd rfl hn
  subst e
  rw [show List.map (facM (addT [] wkT)) [2, 3] = [[([98], 1)], [([97], 1), ([98], 1)]] by decide +kernel] at h3
  rw [show decide (0 ∈ ([0, 2, 3] : List Nat)) = true from rfl] at h3
  exact h3
theorem law10_awake : Ret Try.prog 10 [] (· = .bool true) := by
  have p := wk_parse
  have x := wk_expand
  have v := terms_Valid [121] true [[([98], 1)], [([97], 1), ([98], 1)]] (by decide) (by decide)
  rw [show mdlV [121] [[([98], 1)], [([97], 1), ([98], 1)]] = true by decide +kernel] at v
  generalize wkT.flat = e at *
  refine ret_of_awp tab Try.func10 rfl rfl (Nat.le_of_ble_eq_true rfl) (fun w0 F0 => ?_)
  repeat' (first | refine wG ?_ | refine wC p ?_ | refine wC x ?_ | refine wC v ?_ | refine wR ?_ | refine wS ?_ ?_ <;> intro _ | refine finG ?_)
  all_goals rfl
end Go.Proofs.Ytjooknpgcjicbaa

/-
  TermsCheck: both hold the same models valid. Conditions: none beyond what lists can be.
-/
set_option maxHeartbeats 8000000
namespace Go.Proofs.Ytjooknpgcjicbaa
open Go.Vw
attribute [local irreducible] awp awpL awpR

end Go.Proofs.Ytjooknpgcjicbaa

/-
  Ones of a mask, one cleared at a time. Conditions: none.
-/
namespace Go.Vw
theorem and_pred {t : Nat} (h : 0 < t) : (((t : Int).toNat &&& ((t : Int) - 1).toNat : Nat) : Int) = ((t &&& (t - 1) : Nat) : Int) := by
  rw [Int.toNat_natCast, show ((t : Int) - 1).toNat = t - 1 by omega]
theorem minusM_snoc (a b : List Nat) (t : Nat) : minusM (a ++ [t]) b = minusM a b ++ if t ∈ b then [] else [t] := by
  unfold minusM
  rw [List.filter_append]
  congr 1
  by_cases h : t ∈ b <;> simp [h]
end Go.Vw

/-
  The reference's lists of terms: has, size, plus, minus, fits, cross, star, nest, factor. Conditions: as each says.
-/
set_option maxHeartbeats 8000000
namespace Go.Proofs.Ytjooknpgcjicbaa
open Go.Vw
attribute [local irreducible] awp awpL awpR

theorem ref10_has (l : List Nat) (t : Nat) (hl : l.length ≤ 1000000) : Ret Try.prog 37 [tsD l, tD t] (· = .bool (decide (t ∈ l))) := by
  rcases find_pred 0 l (fun x => decide (x = t)) with ⟨e0, j, hj, h1, h2⟩ | ⟨e0, h2⟩
  · have hm : t ∈ l := by
      obtain ⟨x, hx, e⟩ := List.any_eq_true.1 e0
      rw [← of_decide_eq_true e]; exact hx
    rw [decide_eq_true hm]
    have h1 := of_decide_eq_true h1
    clear e0 hm
    refine ret_of_awp tab Try.func37 rfl rfl (Nat.le_of_ble_eq_true rfl) (fun w0 F0 => ?_)
    repeat' (first | refine wG ?_ | refine wR ?_ | refine wS ?_ ?_ <;> intro _ | refine finG ?_)
    refine awp_loop1 (fun (i : Nat) => ([(0, .d (tsD l)), (1, .d (tD t)), (5, .d (.int .i64 i))], [])) (fun i => i ≤ j) (fun i => l.length - i) 0 (by omega) ⟨rfl, rfl, rfl, rfl⟩ trivial (fun i hi => ?_)
    by_cases h3 : i < j
    · have q : ¬ l.getD i 0 = t := of_decide_eq_false (h2 i h3)
      clear h1 h2
      repeat' (first | refine wG ?_ | refine wR ?_ | refine wS ?_ ?_ <;> intro _ | refine finG ?_)
      exact ⟨i + 1, by omega, by omega, ⟨rfl, rfl, iv (by omega), rfl⟩, trivial⟩
    · have e : i = j := by omega
      subst e
      clear h2
      repeat' (first | refine wG ?_ | refine wR ?_ | refine wS ?_ ?_ <;> intro _ | refine finG ?_)
      rfl
  · have hm : t ∉ l := fun h => by
      rw [List.any_eq_false] at e0
      exact e0 t h (decide_eq_true rfl)
    rw [decide_eq_false hm]
    clear e0 hm
    refine ret_of_awp tab Try.func37 rfl rfl (Nat.le_of_ble_eq_true rfl) (fun w0 F0 => ?_)
    repeat' (first | refine wG ?_ | refine wR ?_ | refine wS ?_ ?_ <;> intro _ | refine finG ?_)
    refine awp_loop1 (fun (i : Nat) => ([(0, .d (tsD l)), (1, .d (tD t)), (5, .d (.int .i64 i))], [])) (fun i => i ≤ l.length) (fun i => l.length - i) 0 (by omega) ⟨rfl, rfl, rfl, rfl⟩ trivial (fun i hi => ?_)
    by_cases h3 : i < l.length
    · have q : ¬ l.getD i 0 = t := of_decide_eq_false (h2 i h3)
      clear h2
      repeat' (first | refine wG ?_ | refine wR ?_ | refine wS ?_ ?_ <;> intro _ | refine finG ?_)
      exact ⟨i + 1, by omega, by omega, ⟨rfl, rfl, iv (by omega), rfl⟩, trivial⟩
    · have e : i = l.length := by omega
      subst e
      clear h2
      repeat' (first | refine wG ?_ | refine wR ?_ | refine wS ?_ ?_ <;> intro _ | refine finG ?_)
      rfl
theorem ref10_size (t : Nat) (ht : t < 2 ^ 64) : Ret Try.prog 38 [tD t] (· = .int .i64 (popc t)) := by
  have pz := popc_zero
  have pc := fun (x : Nat) => @popc_clear x
  have ap := fun (x : Nat) => @and_pred x
  have pl : popc t ≤ 64 := popcF_le 64 t
  generalize popc = P at *
  refine ret_of_awp tab Try.func38 rfl rfl (Nat.le_of_ble_eq_true rfl) (fun w0 F0 => ?_)
  repeat' (first | refine wG ?_ | refine wR ?_ | refine wS ?_ ?_ <;> intro _ | refine finG ?_)
  refine awp_loop2 (fun (x n : Nat) => ([(0, .d (tD x)), (3, .d (.int .i64 n))], [])) (fun x n => x < 2 ^ 64 ∧ P x + n = P t) (fun x n => P x) t 0 ⟨ht, by omega⟩ ⟨rfl, rfl, rfl⟩ trivial (fun x n hi => ?_)
  obtain ⟨i1, i2⟩ := hi
  by_cases h0 : x = 0
  · subst h0
    have en : n = P t := by omega
    clear pc ap ht
    repeat' (first | refine wG ?_ | refine wR ?_ | refine wS ?_ ?_ <;> intro _ | refine finG ?_)
    rw [en]
  · have c := pc x i1 h0
    have a := ap x (by omega)
    have l1 : x &&& (x - 1) < 2 ^ 64 := Nat.lt_of_le_of_lt Nat.and_le_left i1
    clear pc ap ht
    repeat' (first | refine wG ?_ | refine wR ?_ | refine wS ?_ ?_ <;> intro _ | refine finG ?_)
    exact ⟨x &&& (x - 1), n + 1, ⟨l1, by omega⟩, by omega, ⟨iv a, iv (by omega), rfl⟩, trivial⟩
theorem ref10_fits (l : List Nat) (hl : l.length ≤ 1000000) (hb : BdM 64 l) : Ret Try.prog 71 [tsD l] (· = .bool (fitsM l)) := by
  have hs := fun i => ref10_size (l.getD i 0) (hb.getD i)
  have pl : ∀ i, popc (l.getD i 0) ≤ 64 := fun i => popcF_le 64 _
  unfold fitsM
  rcases find_pred 0 l (fun x => !decide (popc x ≤ 6)) with ⟨e0, j, hj, h1, h2⟩ | ⟨e0, h2⟩
  · have hm : (l.all fun t => decide (popc t ≤ 6)) = false := by
      rw [List.all_eq_not_any_not, e0]; rfl
    rw [hm, Bool.and_false]
    clear e0 hm hb
    refine ret_of_awp tab Try.func71 rfl rfl (Nat.le_of_ble_eq_true rfl) (fun w0 F0 => ?_)
    repeat' (first | refine wG ?_ | refine wR ?_ | refine wS ?_ ?_ <;> intro _ | refine finG ?_)
    refine awp_loop1 (fun (i : Nat) => ([(0, .d (tsD l)), (3, .d (.int .i64 i))], [])) (fun i => i ≤ j) (fun i => l.length - i) 0 (by omega) ⟨rfl, rfl, rfl⟩ trivial (fun i hi => ?_)
    have c := hs i
    have q0 := pl i
    by_cases h3 : i < j
    · have q : popc (l.getD i 0) ≤ 6 := by have := h2 i h3; simpa using this
      generalize popc (l.getD i 0) = n at *
      clear h1 h2 hs pl
      repeat' (first | refine wG ?_ | refine wC c ?_ | refine wR ?_ | refine wS ?_ ?_ <;> intro _ | refine finG ?_)
      exact ⟨i + 1, by omega, by omega, ⟨rfl, iv (by omega), rfl⟩, trivial⟩
    · have e : i = j := by omega
      subst e
      have q : ¬ popc (l.getD i 0) ≤ 6 := by simpa using h1
      generalize popc (l.getD i 0) = n at *
      clear h1 h2 hs pl
      repeat' (first | refine wG ?_ | refine wC c ?_ | refine wR ?_ | refine wS ?_ ?_ <;> intro _ | refine finG ?_)
      rfl
  · have hm : (l.all fun t => decide (popc t ≤ 6)) = true := by
      rw [List.all_eq_not_any_not, e0]; rfl
    rw [hm, Bool.and_true]
    clear e0 hm hb
    refine ret_of_awp tab Try.func71 rfl rfl (Nat.le_of_ble_eq_true rfl) (fun w0 F0 => ?_)
    repeat' (first | refine wG ?_ | refine wR ?_ | refine wS ?_ ?_ <;> intro _ | refine finG ?_)
    refine awp_loop1 (fun (i : Nat) => ([(0, .d (tsD l)), (3, .d (.int .i64 i))], [])) (fun i => i ≤ l.length) (fun i => l.length - i) 0 (by omega) ⟨rfl, rfl, rfl⟩ trivial (fun i hi => ?_)
    have c := hs i
    have q0 := pl i
    by_cases h3 : i < l.length
    · have q : popc (l.getD i 0) ≤ 6 := by have := h2 i h3; simpa using this
      generalize popc (l.getD i 0) = n at *
      clear h2 hs pl
      repeat' (first | refine wG ?_ | refine wC c ?_ | refine wR ?_ | refine wS ?_ ?_ <;> intro _ | refine finG ?_)
      exact ⟨i + 1, by omega, by omega, ⟨rfl, iv (by omega), rfl⟩, trivial⟩
    · have e : i = l.length := by omega
      subst e
      clear h2 hs pl c q0
      repeat' (first | refine wG ?_ | refine wR ?_ | refine wS ?_ ?_ <;> intro _ | refine finG ?_)
      exact congrArg D.bool (decide_eq_decide.2 (by omega))
abbrev uT : TypeId := 61
abbrev uO (k n : Nat) : V := .own k 0 n uT 1
abbrev uB (l : List Nat) : Blk := .data uT 1 (eN .u64) 0 l
theorem uOEq {k n m : Nat} (h : n = m) : uO k n = uO k m := by rw [h]
theorem uBEq {l m : List Nat} (h : l = m) : some (uB l) = some (uB m) := by rw [h]
theorem ref10_plus (a b : List Nat) (ha : a.length ≤ 100000) (hb : b.length ≤ 10000) : Ret Try.prog 70 [tsD a, tsD b] (· = tsD (plusM a b)) := by
  obtain ⟨P, hP⟩ : ∃ P : Nat → List Nat, ∀ i, P i = plusM a (b.take i) := ⟨fun i => plusM a (b.take i), fun _ => rfl⟩
  have p0 : P 0 = a := by rw [hP]; rfl
  have pS : ∀ i, i < b.length → P (i + 1) = add1 (P i) (b.getD i 0) := fun i hi => by rw [hP, hP, take_snoc 0 hi, plusM_snoc]
  have pL : ∀ i, (P i).length ≤ 110000 := fun i => by
    rw [hP]
    have := (plusM_le a (b.take i)).2
    rw [List.length_take] at this; omega
  rw [show plusM a b = P b.length by rw [hP, List.take_of_length_le (Nat.le_refl _)]]
  clear hP
  refine ret_of_awp tab Try.func70 rfl rfl (Nat.le_of_ble_eq_true rfl) (fun w0 F0 => ?_)
  repeat' (first | refine wG ?_ | refine wR ?_ | refine wS ?_ ?_ <;> intro _ | refine finG ?_)
  refine awp_loop1 (fun (i : Nat) => ([(1, .d (tsD b)), (5, uO 8 (P i).length), (6, .d (.int .i64 i))], [(8, uB (P i))])) (fun i => i ≤ b.length) (fun i => b.length - i) 0 (by omega) ⟨rfl, uOEq (by rw [p0]), rfl, rfl⟩ ⟨uBEq p0.symm, trivial⟩ (fun i hi => ?_)
  have hl := pL i
  by_cases h3 : i < b.length
  · have st := pS i h3
    have c := ref10_has (P i) (b.getD i 0) (by omega)
    unfold add1 at st
    by_cases hm : b.getD i 0 ∈ P i
    · rw [if_pos hm] at st
      rw [decide_eq_true hm] at c
      clear pS pL
      repeat' (first | refine wG ?_ | refine wC c ?_ | refine wR ?_ | refine wS ?_ ?_ <;> intro _ | refine finG ?_)
      exact ⟨i + 1, by omega, by omega, ⟨rfl, uOEq (by rw [st]), iv (by omega), rfl⟩, uBEq st.symm, trivial⟩
    · rw [if_neg hm] at st
      rw [decide_eq_false hm] at c
      clear pS pL
      repeat' (first | refine wG ?_ | refine wC c ?_ | refine wR ?_ | refine wS ?_ ?_ <;> intro _ | refine finG ?_)
      exact ⟨i + 1, by omega, by omega, ⟨rfl, uOEq (by rw [st]), iv (by omega), rfl⟩, uBEq st.symm, trivial⟩
  · have e : i = b.length := by omega
    subst e
    clear pS pL
    repeat' (first | refine wG ?_ | refine wR ?_ | refine wS ?_ ?_ <;> intro _ | refine finG ?_)
    rfl
theorem ref10_minus (a b : List Nat) (ha : a.length ≤ 100000) (hb : b.length ≤ 100000) : Ret Try.prog 69 [tsD a, tsD b] (· = tsD (minusM a b)) := by
  obtain ⟨P, hP⟩ : ∃ P : Nat → List Nat, ∀ i, P i = minusM (a.take i) b := ⟨fun i => minusM (a.take i) b, fun _ => rfl⟩
  have p0 : P 0 = [] := by rw [hP]; rfl
  have pS : ∀ i, i < a.length → P (i + 1) = P i ++ if a.getD i 0 ∈ b then [] else [a.getD i 0] := fun i hi => by rw [hP, hP, take_snoc 0 hi, minusM_snoc]
  have pL : ∀ i, (P i).length ≤ 100000 := fun i => by
    rw [hP]
    have := minusM_le (a.take i) b
    rw [List.length_take] at this; omega
  rw [show minusM a b = P a.length by rw [hP, List.take_of_length_le (Nat.le_refl _)]]
  clear hP
  refine ret_of_awp tab Try.func69 rfl rfl (Nat.le_of_ble_eq_true rfl) (fun w0 F0 => ?_)
  repeat' (first | refine wG ?_ | refine wR ?_ | refine wS ?_ ?_ <;> intro _ | refine finG ?_)
  refine awp_adopt 5 500 uT 1 (eN .u64) 0 rfl ?_
  refine awp_loop1 (fun (i : Nat) => ([(0, .d (tsD a)), (1, .d (tsD b)), (5, uO 500 (P i).length), (6, .d (.int .i64 i))], [(500, uB (P i))])) (fun i => i ≤ a.length) (fun i => a.length - i) 0 (by omega) ⟨rfl, rfl, uOEq (by rw [p0]; rfl), rfl, rfl⟩ ⟨uBEq p0.symm, trivial⟩ (fun i hi => ?_)
  have hl := pL i
  by_cases h3 : i < a.length
  · have st := pS i h3
    have c := ref10_has b (a.getD i 0) (by omega)
    by_cases hm : a.getD i 0 ∈ b
    · rw [if_pos hm, List.append_nil] at st
      rw [decide_eq_true hm] at c
      clear pS pL
      repeat' (first | refine wG ?_ | refine wC c ?_ | refine wR ?_ | refine wS ?_ ?_ <;> intro _ | refine finG ?_)
      exact ⟨i + 1, by omega, by omega, ⟨rfl, rfl, uOEq (by rw [st]), iv (by omega), rfl⟩, uBEq st.symm, trivial⟩
    · rw [if_neg hm] at st
      rw [decide_eq_false hm] at c
      clear pS pL
      repeat' (first | refine wG ?_ | refine wC c ?_ | refine wR ?_ | refine wS ?_ ?_ <;> intro _ | refine finG ?_)
      exact ⟨i + 1, by omega, by omega, ⟨rfl, rfl, uOEq (by rw [st]), iv (by omega), rfl⟩, uBEq st.symm, trivial⟩
  · have e : i = a.length := by omega
    subst e
    clear pS pL
    repeat' (first | refine wG ?_ | refine wR ?_ | refine wS ?_ ?_ <;> intro _ | refine finG ?_)
    rfl
end Go.Proofs.Ytjooknpgcjicbaa

/-
  The factors of a right side, node by node; where expressions end. Conditions: as each says.
-/
namespace Go.Vw
def rfF (n : Nd) : Fc := if n.1 = 1 then (n.2.1, 1) else if n.1 = 2 then (n.2.1, n.2.2) else ([], 0)
theorem rfF_fac {n : Nd} (h : n.1 = 1 ∨ n.1 = 2) : rfF n = facN n := by
  unfold rfF facN
  by_cases h1 : n.1 = 1
  · rw [if_pos h1, if_pos h1]
  · rw [if_neg h1, if_neg h1, if_pos (by omega)]
theorem rfF_no {n : Nd} (h1 : n.1 ≠ 1) (h2 : n.1 ≠ 2) : (rfF n).2 = 0 := by unfold rfF; rw [if_neg h1, if_neg h2]
def atF (fs : List Fc) (n : Nd) : List Fc := if 0 < (rfF n).2 ∧ rfF n ∉ fs then fs ++ [rfF n] else fs
theorem atF_len (fs : List Fc) (n : Nd) : (atF fs n).length ≤ fs.length + 1 := by
  unfold atF; split
  · simp
  · omega
theorem atFs_len : ∀ (l : List Nd) (fs : List Fc), (l.foldl atF fs).length ≤ fs.length + l.length
  | [], fs => by simp
  | n :: l, fs => by
    have := atFs_len l (atF fs n)
    have := atF_len fs n
    rw [List.foldl_cons, List.length_cons]; omega
theorem atF_fac {n : Nd} {fs : List Fc} (h : n.1 = 1 ∨ n.1 = 2) (hp : 0 < (facN n).2) : atF fs n = addF fs (facN n) := by
  unfold atF addF
  rw [rfF_fac h]
  by_cases hm : facN n ∈ fs
  · rw [if_neg (fun q => q.2 hm), if_pos hm]
  · rw [if_pos ⟨hp, hm⟩, if_neg hm]
theorem atF_addT : ∀ (T : Ft), T.ok → ∀ fs, T.flat.foldl atF fs = addT fs T
  | .leaf n, hok, fs => by
    show atF fs n = _
    rcases hok with ⟨h, _⟩ | ⟨h, _, h2, _⟩ | ⟨h, _⟩
    · rw [addT, if_pos (.inl h), atF_fac (.inl h)]
      unfold facN; rw [if_pos h]; exact Int.one_pos
    · rw [addT, if_pos (.inr h), atF_fac (.inr h)]
      unfold facN; rw [if_neg (by omega)]; show 0 < n.2.2; omega
    · have e := rfF_no (n := n) (by omega) (by omega)
      rw [addT, if_neg (by omega), atF, if_neg (fun q => by omega)]
  | .un k a, hok, fs => by
    show a.flat.foldl atF (atF fs (10, [], k)) = _
    have e := rfF_no (n := ((10 : Int), [], k)) (by show (10 : Int) ≠ 1; decide) (by show (10 : Int) ≠ 2; decide)
    rw [show atF fs (10, [], k) = fs by unfold atF; rw [if_neg (fun q => by omega)]]
    exact atF_addT a hok.2.2 fs
  | .bi op a b, hok, fs => by
    have h5 := hok.1
    show (a.flat ++ b.flat).foldl atF (atF fs (op, [], 0)) = _
    have e := rfF_no (n := (op, [], 0)) (by show op ≠ 1; omega) (by show op ≠ 2; omega)
    rw [show atF fs (op, [], 0) = fs by unfold atF; rw [if_neg (fun q => by omega)]]
    rw [List.foldl_append, atF_addT a hok.2.2.1 fs, atF_addT b hok.2.2.2]
    rfl
theorem endI_at {T : Ft} (hok : T.ok) (pre suf : List Nd) : endI (pre ++ (T.flat ++ suf)) pre.length 1 = (pre.length : Int) + T.flat.length := by
  unfold endI
  rw [List.drop_left, endN_app T hok suf 0, if_pos rfl]
end Go.Vw

/-
  The reference's lists of terms: cross, star, nest, factor, atoms. Conditions: as each says.
-/
set_option maxHeartbeats 8000000
namespace Go.Proofs.Ytjooknpgcjicbaa
open Go.Vw
attribute [local irreducible] awp awpL awpR

theorem ref10_cross (a b : List Nat) (ha : a.length ≤ 100) (hb : b.length ≤ 100) (ba : BdM 64 a) (bb : BdM 64 b) : Ret Try.prog 74 [tsD a, tsD b] (· = tsD (crossM a b)) := by
  have ga := fun i => ba.getD i
  have gb := fun i => bb.getD i
  have crl := fun i j => crF_len ha hb i j
  have crs := fun i (j : Nat) (hj : j < b.length) => crF_step (a := a) (b := b) (i := i) hj
  have crr := fun (i : Nat) (hi : i < a.length) => crF_row (a := a) (b := b) hi
  have cr0 : crF a b 0 0 = [] := rfl
  have cre := crF_end a b
  generalize crF a b = C at *
  refine ret_of_awp tab Try.func74 rfl rfl (Nat.le_of_ble_eq_true rfl) (fun w0 F0 => ?_)
  repeat' (first | refine wG ?_ | refine rg 8 11 ?_ | refine wR ?_ | refine wS ?_ ?_ <;> intro _ | refine finG ?_)
  refine awp_nils 5 1 (eN .u64) 0 rfl ?_
  refine awp_loop1 (fun (i : Nat) => ([(0, .d (tsD a)), (1, .d (tsD b)), (5, .d (tsD (C i 0))), (6, .d (.int .i64 i))], [])) (fun i => i ≤ a.length) (fun i => a.length - i) 0 (by omega) ⟨rfl, rfl, tsEq (by rw [cr0]), rfl, rfl⟩ trivial (fun i hi => ?_)
  by_cases h3 : i < a.length
  · repeat' (first | refine wG ?_ | refine rg 8 11 ?_ | refine wR ?_ | refine wS ?_ ?_ <;> intro _ | refine finG ?_)
    refine awp_loop1 (fun (j : Nat) => ([(0, .d (tsD a)), (1, .d (tsD b)), (5, .d (tsD (C i j))), (6, .d (.int .i64 i)), (7, .d (.int .i64 j))], [])) (fun j => j ≤ b.length) (fun j => b.length - j) 0 (by omega) ⟨rfl, rfl, rfl, rfl, rfl, rfl⟩ trivial (fun j hj => ?_)
    have hl := crl i j
    by_cases h4 : j < b.length
    · have st := crs i j h4
      have w := ref10_plus (C i j) [a.getD i 0 ||| b.getD j 0] (by omega) (by simp)
      rw [plusM_one, ← st] at w
      have g1 := ga i
      have g2 := gb j
      clear crl crs crr ga gb ba bb
      repeat' (first | refine wG ?_ | refine wC w ?_ | refine rg 8 11 ?_ | refine wR ?_ | refine wS ?_ ?_ <;> intro _ | refine finG ?_)
      exact ⟨j + 1, by omega, by omega, ⟨rfl, rfl, rfl, rfl, iv (by omega), rfl⟩, trivial⟩
    · have e : j = b.length := by omega
      subst e
      have rr := crr i h3
      clear crl crs crr ga gb ba bb
      repeat' (first | refine wG ?_ | refine rg 8 11 ?_ | refine wR ?_ | refine wS ?_ ?_ <;> intro _ | refine finG ?_)
      exact ⟨i + 1, by omega, by omega, ⟨rfl, rfl, tsEq rr, iv (by omega), rfl⟩, trivial⟩
  · have e : i = a.length := by omega
    subst e
    rw [cre]
    clear crl crs crr ga gb ba bb cre cr0
    repeat' (first | refine wG ?_ | refine rg 8 11 ?_ | refine wR ?_ | refine wS ?_ ?_ <;> intro _ | refine finG ?_)
    rfl
theorem ref10_star (a b : List Nat) (ha : a.length ≤ 33) (hb : b.length ≤ 33) (ba : BdM 64 a) (bb : BdM 64 b) : Ret Try.prog 73 [tsD a, tsD b] (· = tsD (starM a b)) := by
  have w1 := ref10_plus a b (by omega) (by omega)
  have u1 := ref10_cross a b (by omega) (by omega) ba bb
  have l1 := (plusM_le a b).2
  have l2 := crossM_le a b
  have := Nat.mul_le_mul ha hb
  have w2 := ref10_plus (plusM a b) (crossM a b) (by omega) (by omega)
  rw [show plusM (plusM a b) (crossM a b) = starM a b from rfl] at w2
  generalize starM a b = m at *
  generalize plusM a b = p at *
  generalize crossM a b = c at *
  clear ba bb
  refine ret_of_awp tab Try.func73 rfl rfl (Nat.le_of_ble_eq_true rfl) (fun w0 F0 => ?_)
  repeat' (first | refine wG ?_ | refine wC w1 ?_ | refine wC u1 ?_ | refine wC w2 ?_ | refine wR ?_ | refine wS ?_ ?_ <;> intro _ | refine finG ?_)
  rfl
theorem ref10_nest (a b : List Nat) (ha : a.length ≤ 33) (hb : b.length ≤ 33) (ba : BdM 64 a) (bb : BdM 64 b) : Ret Try.prog 75 [tsD a, tsD b] (· = tsD (nestM a b)) := by
  have ga := fun i => ba.getD i
  have bo : BdM 64 [orM a] := fun t ht => by simp at ht; subst ht; exact ba.or
  have l2 := crossM_le [orM a] b
  have w2 := fun h => ref10_plus a (crossM [orM a] b) (by omega) h
  rw [show plusM a (crossM [orM a] b) = nestM a b from rfl] at w2
  have u1 := ref10_cross [orM a] b (by simp) (by omega) bo bb
  obtain ⟨O, hO⟩ : ∃ O : Nat → Nat, ∀ i, O i = orM (a.take i) := ⟨fun i => orM (a.take i), fun _ => rfl⟩
  have o0 : O 0 = 0 := by rw [hO]; rfl
  have oS : ∀ i, i < a.length → O (i + 1) = O i ||| a.getD i 0 := fun i hi => by rw [hO, hO]; exact nested_or a b ba i hi
  have oB : ∀ i, O i < 2 ^ 64 := fun i => by rw [hO]; exact (ba.take i).or
  have oE : orM a = O a.length := by rw [hO, List.take_of_length_le (Nat.le_refl _)]
  rw [oE] at u1 w2 l2
  clear hO
  rw [List.length_singleton] at l2
  generalize nestM a b = N at *
  refine ret_of_awp tab Try.func75 rfl rfl (Nat.le_of_ble_eq_true rfl) (fun w0 F0 => ?_)
  repeat' (first | refine wG ?_ | refine wR ?_ | refine wS ?_ ?_ <;> intro _ | refine finG ?_)
  refine awp_loop1 (fun (i : Nat) => ([(0, .d (tsD a)), (1, .d (tsD b)), (5, .d (tD (O i))), (6, .d (.int .i64 i))], [])) (fun i => i ≤ a.length) (fun i => a.length - i) 0 (by omega) ⟨rfl, rfl, iv (by rw [o0]; rfl), rfl, rfl⟩ trivial (fun i hi => ?_)
  by_cases h3 : i < a.length
  · have g1 := ga i
    have g2 := oB i
    have st := oS i h3
    clear u1 w2 oS oB ga bo ba bb
    repeat' (first | refine wG ?_ | refine wR ?_ | refine wS ?_ ?_ <;> intro _ | refine finG ?_)
    exact ⟨i + 1, by omega, by omega, ⟨rfl, rfl, iv (by rw [st]; rfl), iv (by omega), rfl⟩, trivial⟩
  · have e : i = a.length := by omega
    subst e
    clear oS oB ga bo ba bb
    have w2 := w2 (by omega)
    generalize crossM [O a.length] b = m at *
    generalize O a.length = o at *
    repeat' (first | refine wG ?_ | refine wC u1 ?_ | refine wC w2 ?_ | refine wR ?_ | refine wS ?_ ?_ <;> intro _ | refine finG ?_)
    rfl
theorem ref10_factor (n : Nd) : Ret Try.prog 68 [ndA n] (· = fcD (rfF n)) := by
  obtain ⟨op, s, k⟩ := n
  unfold rfF ndA
  simp only
  by_cases h1 : op = 1
  · rw [if_pos h1]
    subst h1
    refine ret_of_awp tab Try.func68 rfl rfl (Nat.le_of_ble_eq_true rfl) (fun w0 F0 => ?_)
    repeat' (first | refine wG ?_ | refine wR ?_ | refine wS ?_ ?_ <;> intro _ | refine finG ?_)
    all_goals rfl
  · rw [if_neg h1]
    by_cases h2 : op = 2
    · rw [if_pos h2]
      subst h2
      refine ret_of_awp tab Try.func68 rfl rfl (Nat.le_of_ble_eq_true rfl) (fun w0 F0 => ?_)
      repeat' (first | refine wG ?_ | refine wR ?_ | refine wS ?_ ?_ <;> intro _ | refine finG ?_)
      all_goals rfl
    · rw [if_neg h2]
      refine ret_of_awp tab Try.func68 rfl rfl (Nat.le_of_ble_eq_true rfl) (fun w0 F0 => ?_)
      repeat' (first | refine wG ?_ | refine wR ?_ | refine wS ?_ ?_ <;> intro _ | refine finG ?_)
      all_goals rfl
theorem fcBEq {k : Nat} {l m : List Fc} (h : l = m) : some (Blk.data fcT 2 fcC fc0 l) = some (Blk.data fcT 2 fcC fc0 m) := by rw [h]
theorem fcOEq {k n m : Nat} (h : n = m) : V.own k 0 n fcT 2 = V.own k 0 m fcT 2 := by rw [h]
theorem ref10_atoms (e : List Nd) (hl : e.length ≤ 1000) : Ret Try.prog 34 [ndsD e] (· = fsD (e.foldl atF [])) := by
  obtain ⟨P, hP⟩ : ∃ P : Nat → List Fc, ∀ i, P i = (e.take i).foldl atF [] := ⟨_, fun _ => rfl⟩
  have p0 : P 0 = [] := by rw [hP]; rfl
  have pS : ∀ i, i < e.length → P (i + 1) = atF (P i) (e[i]?.getD nd0) := fun i hi => by
    rw [hP, hP, take_snoc nd0 hi, List.foldl_append, ← List.getD_eq_getElem?_getD]; rfl
  have pL : ∀ i, (P i).length ≤ 1000 := fun i => by
    rw [hP]
    have := atFs_len (e.take i) []
    rw [List.length_take] at this
    simp at this; omega
  rw [show e.foldl atF [] = P e.length by rw [hP, List.take_of_length_le (Nat.le_refl _)]]
  clear hP
  refine ret_of_awp tab Try.func34 rfl rfl (Nat.le_of_ble_eq_true rfl) (fun w0 F0 => ?_)
  repeat' (first | refine wG ?_ | refine wR ?_ | refine wS ?_ ?_ <;> intro _ | refine finG ?_)
  refine awp_adopt 3 500 fcT 2 fcC fc0 rfl ?_
  refine awp_loop1 (fun (i : Nat) => ([(0, .d (ndsD e)), (3, .own 500 0 (P i).length fcT 2), (4, .d (.int .i64 i))], [(500, .data fcT 2 fcC fc0 (P i))])) (fun i => i ≤ e.length) (fun i => e.length - i) 0 (by omega) ⟨rfl, fcOEq (by rw [p0]; rfl), rfl, rfl⟩ ⟨fcBEq (k := 0) p0.symm, trivial⟩ (fun i hi => ?_)
  have hl := pL i
  by_cases h3 : i < e.length
  · have st := pS i h3
    have fc := ref10_factor (e[i]?.getD nd0)
    have pl := ref10_place (P i) (rfF (e[i]?.getD nd0)) (by omega)
    unfold atF at st
    generalize rfF (e[i]?.getD nd0) = x at *
    by_cases hp : 0 < x.2
    · by_cases hm : x ∈ P i
      · rw [if_neg (fun q => q.2 hm)] at st
        have q2 : 0 ≤ plc (P i) x := plc_ge.2 hm
        generalize plc (P i) x = r at *
        clear pS pL
        repeat' (first | refine wG ?_ | refine wC fc ?_ | refine wC pl ?_ | refine wR ?_ | refine wS ?_ ?_ <;> intro _ | refine finG ?_)
        exact ⟨i + 1, by omega, by omega, ⟨rfl, fcOEq (by rw [st]), iv (by omega), rfl⟩, fcBEq (k := 0) st.symm, trivial⟩
      · rw [if_pos ⟨hp, hm⟩] at st
        have q2 : ¬ 0 ≤ plc (P i) x := fun q => hm (plc_ge.1 q)
        generalize plc (P i) x = r at *
        clear pS pL
        repeat' (first | refine wG ?_ | refine wC fc ?_ | refine wC pl ?_ | refine wR ?_ | refine wS ?_ ?_ <;> intro _ | refine finG ?_)
        exact ⟨i + 1, by omega, by omega, ⟨rfl, fcOEq (by rw [st]), iv (by omega), rfl⟩, fcBEq (k := 0) st.symm, trivial⟩
    · rw [if_neg (fun q => hp q.1)] at st
      clear pS pL pl
      repeat' (first | refine wG ?_ | refine wC fc ?_ | refine wR ?_ | refine wS ?_ ?_ <;> intro _ | refine finG ?_)
      exact ⟨i + 1, by omega, by omega, ⟨rfl, fcOEq (by rw [st]), iv (by omega), rfl⟩, fcBEq (k := 0) st.symm, trivial⟩
  · have e1 : i = e.length := by omega
    subst e1
    clear pS pL
    repeat' (first | refine wG ?_ | refine wR ?_ | refine wS ?_ ?_ <;> intro _ | refine finG ?_)
    rfl
end Go.Proofs.Ytjooknpgcjicbaa

/-
  What lists of terms mean, whatever the numbers of the factors. Conditions: as each says.
-/
namespace Go.Vw
abbrev Fs : Type := Fc → Prop
abbrev FsS : Type := Fs → Prop
def decM (al : List Fc) (t : Nat) : Fs := fun x => x ∈ al ∧ t.testBit (al.idxOf x) = true
def Sem (al : List Fc) (l : List Nat) : FsS := fun f => ∃ t, t ∈ l ∧ f = decM al t
def uniS (A B : FsS) : FsS := fun f => A f ∨ B f
def difS (A B : FsS) : FsS := fun f => A f ∧ ¬ B f
def prdS (A B : FsS) : FsS := fun f => ∃ a b, A a ∧ B b ∧ f = fun x => a x ∨ b x
def strS (A B : FsS) : FsS := uniS (uniS A B) (prdS A B)
def bigS (A : FsS) : Fs := fun x => ∃ a, A a ∧ a x
def oneS (a : Fs) : FsS := fun f => f = a
def nstS (A B : FsS) : FsS := uniS A (prdS (oneS (bigS A)) B)
def pwrS (A : FsS) : Nat → FsS
  | 0 => A
  | k + 1 => strS (pwrS A k) A
def nulS : Fs := fun _ => False
def opS (op : Int) (A B : FsS) : FsS := if op = 5 then uniS A B else if op = 6 then difS A B else if op = 7 then prdS A B else if op = 8 then strS A B else nstS A B
def tS : Ft → FsS
  | .leaf n => if n.1 = 3 then oneS nulS else if n.1 = 4 then fun _ => False else oneS fun x => x = facN n
  | .un k a => pwrS (tS a) (k.toNat - 1)
  | .bi op a b => opS op (tS a) (tS b)
def apS (A B : FsS) (z add : Bool) : FsS := if (z != add) then uniS A (if z then oneS nulS else B) else difS A (if z then oneS nulS else B)
def mdS : Ft → FsS
  | .bi op a b => if op = 5 ∨ op = 6 then apS (mdS a) (tS b) (decide (b.op = 4)) (decide (op = 5)) else apS (oneS nulS) (opS op (tS a) (tS b)) false true
  | .leaf n => apS (oneS nulS) (tS (.leaf n)) (decide (n.1 = 4)) true
  | .un k a => apS (oneS nulS) (tS (.un k a)) false true

theorem decM_or (al : List Fc) (s t : Nat) : decM al (s ||| t) = fun x => decM al s x ∨ decM al t x := by
  funext x
  unfold decM
  rw [Nat.testBit_or, Bool.or_eq_true]
  refine propext ⟨?_, ?_⟩
  · rintro ⟨h, q | q⟩
    · exact .inl ⟨h, q⟩
    · exact .inr ⟨h, q⟩
  · rintro (⟨h, q⟩ | ⟨h, q⟩)
    · exact ⟨h, .inl q⟩
    · exact ⟨h, .inr q⟩
theorem decM_zero (al : List Fc) : decM al 0 = nulS := by
  funext x
  unfold decM nulS
  rw [Nat.zero_testBit]
  exact propext ⟨(fun h => by cases h.2), (fun h => h.elim)⟩
theorem getD_idx {al : List Fc} {x : Fc} (h : x ∈ al) : al.getD (al.idxOf x) fc0 = x := by
  rw [List.getD_eq_getElem?_getD, List.getElem?_eq_getElem (List.idxOf_lt_length_of_mem h)]
  exact List.getElem_idxOf _
theorem idx_getD {al : List Fc} (hn : al.Nodup) {i : Nat} (h : i < al.length) : al.idxOf (al.getD i fc0) = i := by
  rw [List.getD_eq_getElem?_getD, List.getElem?_eq_getElem h]
  exact hn.idxOf_getElem i h
theorem getD_memF {al : List Fc} {i : Nat} (h : i < al.length) : al.getD i fc0 ∈ al := by
  rw [List.getD_eq_getElem?_getD, List.getElem?_eq_getElem h]
  exact List.getElem_mem h
theorem decM_inj {al : List Fc} (hn : al.Nodup) {t u : Nat} (ht : t < 2 ^ al.length) (hu : u < 2 ^ al.length) (h : decM al t = decM al u) : t = u := by
  refine Nat.eq_of_testBit_eq fun i => ?_
  by_cases hi : i < al.length
  · have h1 := congrFun h (al.getD i fc0)
    unfold decM at h1
    rw [idx_getD hn hi] at h1
    have h2 := h1
    have m := getD_memF hi
    have h3 : t.testBit i = true ↔ u.testBit i = true := by
      constructor
      · intro q; exact ((h1 ▸ (⟨m, q⟩ : _ ∧ _) : al.getD i fc0 ∈ al ∧ u.testBit i = true)).2
      · intro q; exact ((h1 ▸ (⟨m, q⟩ : _ ∧ _) : al.getD i fc0 ∈ al ∧ t.testBit i = true)).2
    cases e1 : t.testBit i <;> cases e2 : u.testBit i <;> rw [e1, e2] at h3 <;> simp at h3 ⊢
  · rw [Nat.testBit_lt_two_pow (Nat.lt_of_lt_of_le ht (Nat.pow_le_pow_right (by decide) (by omega))), Nat.testBit_lt_two_pow (Nat.lt_of_lt_of_le hu (Nat.pow_le_pow_right (by decide) (by omega)))]
theorem decM_pow {al : List Fc} (hn : al.Nodup) {f : Fc} (hf : f ∈ al) : decM al (2 ^ al.idxOf f) = fun x => x = f := by
  funext x
  unfold decM
  rw [Nat.testBit_two_pow]
  refine propext ⟨fun ⟨h, q⟩ => ?_, fun h => ?_⟩
  · have q := of_decide_eq_true q
    rw [← getD_idx h, ← q, getD_idx hf]
  · subst h; exact ⟨hf, by simp⟩

theorem sem_plus (al : List Fc) (a b : List Nat) : Sem al (plusM a b) = uniS (Sem al a) (Sem al b) := by
  funext f
  refine propext ⟨fun ⟨t, ht, e⟩ => ?_, fun h => ?_⟩
  · exact (mem_plusM.1 ht).elim (fun h => .inl ⟨t, h, e⟩) fun h => .inr ⟨t, h, e⟩
  · rcases h with ⟨t, ht, e⟩ | ⟨t, ht, e⟩
    · exact ⟨t, mem_plusM.2 (.inl ht), e⟩
    · exact ⟨t, mem_plusM.2 (.inr ht), e⟩
theorem sem_minus {al : List Fc} (hn : al.Nodup) {a b : List Nat} (ha : BdM al.length a) (hb : BdM al.length b) : Sem al (minusM a b) = difS (Sem al a) (Sem al b) := by
  funext f
  refine propext ⟨fun ⟨t, ht, e⟩ => ?_, fun ⟨⟨t, ht, e⟩, h⟩ => ?_⟩
  · obtain ⟨h1, h2⟩ := mem_minusM.1 ht
    refine ⟨⟨t, h1, e⟩, fun ⟨u, hu, e2⟩ => h2 ?_⟩
    rw [decM_inj hn (ha t h1) (hb u hu) (e.symm.trans e2)]; exact hu
  · exact ⟨t, mem_minusM.2 ⟨ht, fun hb => h ⟨t, hb, e⟩⟩, e⟩
theorem sem_cross (al : List Fc) (a b : List Nat) : Sem al (crossM a b) = prdS (Sem al a) (Sem al b) := by
  funext f
  refine propext ⟨fun ⟨t, ht, e⟩ => ?_, fun ⟨x, y, ⟨s, hs, e1⟩, ⟨u, hu, e2⟩, e⟩ => ?_⟩
  · obtain ⟨s, hs, u, hu, rfl⟩ := mem_crossM.1 ht
    exact ⟨_, _, ⟨s, hs, rfl⟩, ⟨u, hu, rfl⟩, by rw [e, decM_or]⟩
  · subst e1 e2
    exact ⟨s ||| u, mem_crossM.2 ⟨s, hs, u, hu, rfl⟩, by rw [e, decM_or]⟩
theorem sem_one (al : List Fc) (t : Nat) : Sem al [t] = oneS (decM al t) := by
  funext f
  exact propext ⟨fun ⟨u, hu, e⟩ => by simp at hu; subst hu; exact e, fun e => ⟨t, by simp, e⟩⟩
theorem sem_star (al : List Fc) (a b : List Nat) : Sem al (starM a b) = strS (Sem al a) (Sem al b) := by
  unfold starM strS; rw [sem_plus, sem_plus, sem_cross]
theorem decM_orM (al : List Fc) (a : List Nat) : decM al (orM a) = bigS (Sem al a) := by
  funext x
  unfold decM bigS
  rw [testBit_orM, List.any_eq_true]
  refine propext ⟨fun ⟨h, t, ht, q⟩ => ⟨_, ⟨t, ht, rfl⟩, h, q⟩, fun ⟨f, ⟨t, ht, e⟩, hf⟩ => ?_⟩
  subst e
  exact ⟨hf.1, t, ht, hf.2⟩
theorem sem_nest (al : List Fc) (a b : List Nat) : Sem al (nestM a b) = nstS (Sem al a) (Sem al b) := by
  unfold nestM nstS; rw [sem_plus, sem_cross, sem_one, decM_orM]
theorem sem_pow (al : List Fc) (a : List Nat) : ∀ k, Sem al (powM a k) = pwrS (Sem al a) k
  | 0 => rfl
  | k + 1 => by show Sem al (starM (powM a k) a) = strS (pwrS (Sem al a) k) (Sem al a); rw [sem_star, sem_pow al a k]
theorem sem_op {al : List Fc} (hn : al.Nodup) (op : Int) {a b : List Nat} (ha : BdM al.length a) (hb : BdM al.length b) : Sem al (opM op a b) = opS op (Sem al a) (Sem al b) := by
  unfold opM opS
  repeat' split
  · exact sem_plus al a b
  · exact sem_minus hn ha hb
  · exact sem_cross al a b
  · exact sem_star al a b
  · exact sem_nest al a b
theorem sem_leaf {al : List Fc} (hn : al.Nodup) {n : Nd} (hok : leafOk n) (hf : n.1 = 1 ∨ n.1 = 2 → facN n ∈ al) : Sem al (vN al n) = tS (.leaf n) := by
  unfold vN tS
  by_cases h3 : n.1 = 3
  · rw [if_pos h3, if_pos h3, sem_one, decM_zero]
  · rw [if_neg h3, if_neg h3]
    by_cases h4 : n.1 = 4
    · rw [if_pos h4, if_pos h4]
      funext f
      exact propext ⟨(fun ⟨t, ht, _⟩ => by cases ht), (fun h => h.elim)⟩
    · rw [if_neg h4, if_neg h4, sem_one, decM_pow hn (hf (by rcases hok with ⟨h, _⟩ | ⟨h, _⟩ | ⟨h | h, _⟩ <;> omega))]
theorem exM_sem {al : List Fc} (h64 : al.length ≤ 64) (hn : al.Nodup) : ∀ (T : Ft), T.ok → facsIn al T → ∀ l, exM al T = some l → Sem al l = tS T
  | .leaf n, hok, hf, l, h => by cases h; exact sem_leaf hn hok hf
  | .un k a, hok, hf, l, h => by
    simp only [exM] at h
    split at h
    · rename_i m hm
      rw [(fitO_some h).2, sem_pow, exM_sem h64 hn a hok.2.2 hf m hm]; rfl
    · cases h
  | .bi op a b, hok, hf, l, h => by
    simp only [exM] at h
    split at h
    · rename_i m m2 hm hm2
      rw [(fitO_some h).2, sem_op hn op (exM_ok h64 a hok.2.2.1 hf.1 m hm).bd (exM_ok h64 b hok.2.2.2 hf.2 m2 hm2).bd, exM_sem h64 hn a hok.2.2.1 hf.1 m hm, exM_sem h64 hn b hok.2.2.2 hf.2 m2 hm2]; rfl
    · cases h
/-! ## the numbers of lists that mean the same -/
theorem nodup_map_le {α : Type} {l : List Nat} {m : List Nat} {R : Nat → Nat → Prop} (hl : l.Nodup) (hR : ∀ t ∈ l, ∃ u ∈ m, R t u) (hinj : ∀ t ∈ l, ∀ t' ∈ l, ∀ u, R t u → R t' u → t = t') : l.length ≤ m.length := by
  induction l generalizing m with
  | nil => exact Nat.zero_le _
  | cons a l ih =>
    obtain ⟨u, hu, hau⟩ := hR a List.mem_cons_self
    have hp := List.nodup_cons.1 hl
    have := ih (m := m.erase u) hp.2 (fun t ht => by
      obtain ⟨u', hu', h'⟩ := hR t (List.mem_cons_of_mem _ ht)
      have : u' ≠ u := fun e => hp.1 (by
        have := hinj a List.mem_cons_self t (List.mem_cons_of_mem _ ht) u hau (e ▸ h')
        rw [this]; exact ht)
      exact ⟨u', (List.mem_erase_of_ne this).2 hu', h'⟩) (fun t ht t' ht' => hinj t (List.mem_cons_of_mem _ ht) t' (List.mem_cons_of_mem _ ht'))
    rw [List.length_erase_of_mem hu] at this
    have := List.length_pos_of_mem hu
    rw [List.length_cons]; omega
theorem sem_len_le {al al' : List Fc} (hn : al.Nodup) {l l' : List Nat} (hl : l.Nodup) (bl : BdM al.length l) (h : ∀ f, Sem al l f → Sem al' l' f) : l.length ≤ l'.length :=
  nodup_map_le (α := Unit) (R := fun t u => decM al t = decM al' u) hl (fun t ht => by
    obtain ⟨u, hu, e⟩ := h _ ⟨t, ht, rfl⟩
    exact ⟨u, hu, e⟩) fun t ht t' ht' u e e' => decM_inj hn (bl t ht) (bl t' ht') (e.trans e'.symm)
theorem sem_len {al al' : List Fc} (hn : al.Nodup) (hn' : al'.Nodup) {l l' : List Nat} (hl : l.Nodup) (hl' : l'.Nodup) (bl : BdM al.length l) (bl' : BdM al'.length l') (h : Sem al l = Sem al' l') : l.length = l'.length :=
  Nat.le_antisymm (sem_len_le hn hl bl fun f hf => h ▸ hf) (sem_len_le hn' hl' bl' fun f hf => h ▸ hf)
/-! ## the factors of a term -/
theorem mem_facM {al : List Fc} (hn : al.Nodup) {t : Nat} {x : Fc} : x ∈ facM al t ↔ decM al t x := by
  unfold facM decM
  rw [List.mem_map]
  constructor
  · rintro ⟨i, hi, rfl⟩
    rw [List.mem_filter, List.mem_range] at hi
    exact ⟨getD_memF hi.1, by rw [idx_getD hn hi.1]; exact hi.2⟩
  · rintro ⟨h, q⟩
    exact ⟨al.idxOf x, List.mem_filter.2 ⟨List.mem_range.2 (List.idxOf_lt_length_of_mem h), q⟩, getD_idx h⟩
theorem nodup_facM {al : List Fc} (hn : al.Nodup) (t : Nat) : (facM al t).Nodup := by
  unfold facM
  rw [List.nodup_iff_pairwise_ne, List.pairwise_map]
  have h1 : ((List.range al.length).filter fun i => t.testBit i).Nodup := List.nodup_range.filter _
  rw [List.nodup_iff_pairwise_ne] at h1
  refine List.Pairwise.imp_of_mem (fun {i j} hi hj hne e => hne ?_) h1
  rw [List.mem_filter, List.mem_range] at hi hj
  have := congrArg al.idxOf e
  rwa [idx_getD hn hi.1, idx_getD hn hj.1] at this
theorem popcF_cnt : ∀ (k t : Nat), ((List.range k).filter fun i => t.testBit i).length = popcF k t
  | 0, t => rfl
  | k + 1, t => by
    rw [List.range_succ_eq_map]
    have e : ((List.range k).map Nat.succ).filter (fun i => t.testBit i) = ((List.range k).filter fun i => (t / 2).testBit i).map Nat.succ := by
      rw [List.filter_map]
      congr 1
      refine List.filter_congr fun i _ => ?_
      show t.testBit (i + 1) = (t / 2).testBit i
      rw [Nat.testBit_succ]
    show (((0 :: (List.range k).map Nat.succ)).filter fun i => t.testBit i).length = t % 2 + popcF k (t / 2)
    rw [List.filter_cons, e, ← popcF_cnt k (t / 2)]
    have hb : t.testBit 0 = decide (t % 2 = 1) := Nat.testBit_zero t
    rw [hb]
    rcases Nat.mod_two_eq_zero_or_one t with q | q
    · rw [q]; simp
    · rw [q]; simp; omega
end Go.Vw

/-
  What a formula stands for is a valid model. Conditions: as each says.
-/
namespace Go.Vw
theorem popc_facM {al : List Fc} (h64 : al.length ≤ 64) {t : Nat} (ht : t < 2 ^ al.length) : (facM al t).length = popc t := by
  unfold facM
  rw [List.length_map, popcF_cnt, popc, show 64 = al.length + (64 - al.length) by omega, popcF_more _ _ _ ht]
theorem apM_ok {n : Nat} {l m q : List Nat} {z add : Bool} (ol : TmOk n l) (om : m.Nodup ∧ BdM n m) (h : apM l m z add = some q) : TmOk n q := by
  have b0 : BdM n (if z = true then [0] else m) := by
    split
    · exact fun t ht => by simp at ht; subst ht; exact Nat.two_pow_pos _
    · exact om.2
  unfold apM at h
  generalize (if z = true then [0] else m) = m' at *
  by_cases h1 : (z != add) = true
  · rw [if_pos h1] at h
    by_cases hf : fitsM (plusM l m') = true
    · rw [if_pos hf] at h
      cases h
      exact ⟨hf, nodup_plusM ol.nd, ol.bd.plus b0⟩
    · rw [if_neg hf] at h
      cases h
  · rw [if_neg h1] at h
    cases h
    exact ⟨fits_sub (nodup_minusM ol.nd) (fun t ht => (mem_minusM.1 ht).1) ol.fit, nodup_minusM ol.nd, ol.bd.minus⟩
theorem apM_sem {al : List Fc} (hn : al.Nodup) {l m q : List Nat} {z add : Bool} (bl : BdM al.length l) (bm : BdM al.length m) (h : apM l m z add = some q) : Sem al q = apS (Sem al l) (Sem al m) z add := by
  have b0 : BdM al.length (if z = true then [0] else m) := by
    split
    · exact fun t ht => by simp at ht; subst ht; exact Nat.two_pow_pos _
    · exact bm
  have s0 : Sem al (if z = true then [0] else m) = if z = true then oneS nulS else Sem al m := by
    split
    · rw [sem_one, decM_zero]
    · rfl
  unfold apM at h
  unfold apS
  rw [← s0]
  generalize (if z = true then [0] else m) = m' at *
  by_cases h1 : (z != add) = true
  · rw [if_pos h1] at h ⊢
    by_cases hf : fitsM (plusM l m') = true
    · rw [if_pos hf] at h
      cases h
      exact sem_plus al l m'
    · rw [if_neg hf] at h
      cases h
  · rw [if_neg h1] at h ⊢
    cases h
    exact sem_minus hn bl b0
theorem one_ok (n : Nat) : TmOk n [0] := ⟨by decide, by simp, fun t ht => by simp at ht; subst ht; exact Nat.two_pow_pos _⟩
theorem mdM_all {al : List Fc} (h64 : al.length ≤ 64) (hn : al.Nodup) : ∀ (T : Ft), T.ok → facsIn al T → ∀ l, mdM al [0] T = some l → TmOk al.length l ∧ Sem al l = mdS T
  | .leaf n, hok, hf, l, h => by
    have h : stpM al (some [0]) (.leaf n) true = some l := h
    unfold stpM at h
    split at h
    · rename_i l1 m e1 e2
      cases e1
      have o := exM_ok h64 (.leaf n) hok hf m e2
      refine ⟨apM_ok (one_ok _) ⟨o.nd, o.bd⟩ h, ?_⟩
      rw [apM_sem hn (one_ok _).bd o.bd h, exM_sem h64 hn (.leaf n) hok hf m e2, sem_one, decM_zero]
      rfl
    · cases h
  | .un k a, hok, hf, l, h => by
    have h : stpM al (some [0]) (.un k a) true = some l := h
    unfold stpM at h
    split at h
    · rename_i l1 m e1 e2
      cases e1
      have o := exM_ok h64 (.un k a) hok hf m e2
      refine ⟨apM_ok (one_ok _) ⟨o.nd, o.bd⟩ h, ?_⟩
      rw [apM_sem hn (one_ok _).bd o.bd h, exM_sem h64 hn (.un k a) hok hf m e2, sem_one, decM_zero]
      rfl
    · cases h
  | .bi op a b, hok, hf, l, h => by
    unfold mdM at h
    unfold mdS
    by_cases hop : op = 5 ∨ op = 6
    · rw [if_pos hop] at h ⊢
      unfold stpM at h
      split at h
      · rename_i l1 m e1 e2
        obtain ⟨o1, s1⟩ := mdM_all h64 hn a hok.2.2.1 hf.1 l1 e1
        have o := exM_ok h64 b hok.2.2.2 hf.2 m e2
        refine ⟨apM_ok o1 ⟨o.nd, o.bd⟩ h, ?_⟩
        rw [apM_sem hn o1.bd o.bd h, exM_sem h64 hn b hok.2.2.2 hf.2 m e2, s1]
      · cases h
    · rw [if_neg hop] at h ⊢
      unfold stpM at h
      split at h
      · rename_i l1 m e1 e2
        cases e1
        have o := exM_ok h64 (.bi op a b) hok hf m e2
        refine ⟨apM_ok (one_ok _) ⟨o.nd, o.bd⟩ h, ?_⟩
        have e4 : decide ((Ft.bi op a b).op = 4) = false := decide_eq_false (by show ¬ op = 4; have := hok.1; omega)
        rw [e4] at h
        rw [apM_sem hn (one_ok _).bd o.bd h, exM_sem h64 hn (.bi op a b) hok hf m e2, sem_one, decM_zero]
        rfl
      · cases h
/-! ## the factors come from the formula -/
theorem addT_len : ∀ (T : Ft) (fs : List Fc), (addT fs T).length ≤ fs.length + T.flat.length
  | .leaf n, fs => by
    unfold addT addF
    repeat' split
    all_goals simp [Ft.flat]
  | .un k a, fs => by have := addT_len a fs; show (addT fs a).length ≤ _; simp only [Ft.flat, List.length_cons]; omega
  | .bi op a b, fs => by
    have := addT_len a fs
    have := addT_len b (addT fs a)
    show (addT (addT fs a) b).length ≤ _
    simp only [Ft.flat, List.length_cons, List.length_append]; omega
/-! ## the model is valid -/
theorem nodup_sup {l m : List Fc} (hl : l.Nodup) (h : ∀ x, x ∈ l → x ∈ m) (hm : m.length ≤ l.length) : ∀ x, x ∈ m → x ∈ l := by
  induction l generalizing m with
  | nil => intro x hx; have := List.length_pos_of_mem hx; simp at hm; rw [hm] at hx; cases hx
  | cons a l ih =>
    intro x hx
    have hp := List.nodup_cons.1 hl
    by_cases e : x = a
    · rw [e]; exact List.mem_cons_self
    · refine List.mem_cons_of_mem _ (ih (m := m.erase a) hp.2 (fun y hy => ?_) ?_ x ((List.mem_erase_of_ne e).2 hx))
      · exact (List.mem_erase_of_ne (fun (q : y = a) => hp.1 (q ▸ hy))).2 (h y (List.mem_cons_of_mem _ hy))
      · rw [List.length_erase_of_mem (h a List.mem_cons_self)]
        rw [List.length_cons] at hm; omega
end Go.Vw

/-
  The reference's list of an expression. Conditions: as each says.
-/
set_option maxHeartbeats 8000000
namespace Go.Proofs.Ytjooknpgcjicbaa
open Go.Vw
attribute [local irreducible] awp awpL awpR

def LsC (e : List Nd) (p : Int) (al : List Fc) (T : Ft) : Prop := ∃ x, (∀ l, exM al T = some l → x = l) ∧ Ret Try.prog 36 [ndsD e, .int .i64 p, fsD al] (· = .tup [tsD x, .bool (exM al T).isSome])
theorem bxEq {m n : Nd} (h : m = n) : some (Blk.box ndT [.d (.int .i64 m.1), .d (.str m.2.1), .d (.int .i64 m.2.2)]) = some (Blk.box ndT [.d (.int .i64 n.1), .d (.str n.2.1), .d (.int .i64 n.2.2)]) := by rw [h]
theorem ar_leaf {n : Nd} (h : leafOk n) : arity n.1 = 0 := by
  unfold arity; rw [if_pos (by rcases h with ⟨h, _⟩ | ⟨h, _⟩ | ⟨h, _⟩ <;> omega)]
theorem ls_leaf (e : List Nd) (p : Nat) (al : List Fc) (n : Nd) (hn : e.getD p nd0 = n) (hp : p < e.length) (he : e.length ≤ 1000) (hok : leafOk n) (hm : n.1 = 1 ∨ n.1 = 2 → facN n ∈ al) (hal : al.length ≤ 64) : LsC e p al (.leaf n) := by
  refine ⟨vN al n, fun l h => by cases h; rfl, ?_⟩
  show Ret Try.prog 36 [ndsD e, .int .i64 p, fsD al] (· = .tup [tsD (vN al n), .bool true])
  have ar := ref_Arity n.1
  rw [ar_leaf hok] at ar
  by_cases h12 : n.1 = 1 ∨ n.1 = 2
  · have hmm := hm h12
    have hi := List.idxOf_lt_length_of_mem hmm
    have fc := ref10_factor n
    rw [rfF_fac h12] at fc
    have pl := ref10_place al (facN n) (by omega)
    unfold plc at pl
    rw [if_pos hmm] at pl
    have ev : vN al n = [2 ^ al.idxOf (facN n)] := by unfold vN; rw [if_neg (by omega), if_neg (by omega)]
    rw [ev]
    generalize al.idxOf (facN n) = i at *
    generalize facN n = x at *
    clear hm ev hok hmm
    obtain ⟨op, s, k⟩ := n
    simp only at h12 ar
    refine ret_of_awp tab Try.func36 rfl rfl (Nat.le_of_ble_eq_true rfl) (fun w0 F0 => ?_)
    repeat' (first | refine stopA 2 tt ?_ | refine wG ?_ | refine wR ?_ | refine wS ?_ ?_ <;> intro _ | refine finG ?_)
    refine stopOut ?_
    refine awp_slots [(0, .d (ndsD e)), (1, .d (.int .i64 p)), (2, .d (fsD al)), (8, .ptr 8 0)] [(8, .box ndT [.d (.int .i64 op), .d (.str s), .d (.int .i64 k)])] ⟨rfl, rfl, rfl, rfl, rfl⟩ ⟨bxEq hn, trivial⟩ ?_
    repeat' (first | refine wG ?_ | refine wC ar ?_ | refine wC fc ?_ | refine wC pl ?_ | refine wR ?_ | refine wS ?_ ?_ <;> intro _ | refine finTG ?_)
    all_goals
      show LeT [.sl 1 (nth [] [[.int .u64 (1 * 2 ^ ((i : Int)).toNat % 18446744073709551616)]]) 0 (iota 1 0), .bool true] _
      rw [shl_val (by omega)]
      exact leT
  · have ev : vN al n = if n.1 = 3 then [0] else [] := by
      unfold vN
      rcases hok with ⟨h, _⟩ | ⟨h, _⟩ | ⟨h | h, _⟩
      · exact absurd (.inl h) h12
      · exact absurd (.inr h) h12
      · rw [if_pos h, if_pos h]
      · rw [if_neg (by omega), if_pos h, if_neg (by omega)]
    rw [ev]
    have h34 : n.1 = 3 ∨ n.1 = 4 := by rcases hok with ⟨h, _⟩ | ⟨h, _⟩ | ⟨h, _⟩ <;> first | exact h | omega
    clear hm ev hok
    obtain ⟨op, s, k⟩ := n
    simp only at h12 h34 ar ⊢
    rcases h34 with rfl | rfl
    all_goals
      refine ret_of_awp tab Try.func36 rfl rfl (Nat.le_of_ble_eq_true rfl) (fun w0 F0 => ?_)
      repeat' (first | refine stopA 2 tt ?_ | refine wG ?_ | refine wR ?_ | refine wS ?_ ?_ <;> intro _ | refine finG ?_)
      refine stopOut ?_
      refine awp_slots [(0, .d (ndsD e)), (1, .d (.int .i64 p)), (2, .d (fsD al)), (8, .ptr 8 0)] [(8, .box ndT [.d (.int .i64 _), .d (.str s), .d (.int .i64 k)])] ⟨rfl, rfl, rfl, rfl, rfl⟩ ⟨bxEq hn, trivial⟩ ?_
      repeat' (first | refine wG ?_ | refine wC ar ?_ | refine wR ?_ | refine wS ?_ ?_ <;> intro _ | refine finTG ?_)
      all_goals exact leT
theorem ls_no (e : List Nd) (p : Nat) (al : List Fc) (n : Nd) (hn : e.getD p nd0 = n) (hp : p < e.length) (he : e.length ≤ 1000) (h5 : 5 ≤ n.1 ∧ n.1 ≤ 10) (x : List Nat) (A : Ret Try.prog 36 [ndsD e, .int .i64 ((p : Int) + 1), fsD al] (· = .tup [tsD x, .bool false])) : Ret Try.prog 36 [ndsD e, .int .i64 p, fsD al] (· = .tup [tsD [], .bool false]) := by
  have ar := ref_Arity n.1
  have a0 : ¬ arity n.1 = 0 := by unfold arity; (repeat' split) <;> omega
  generalize arity n.1 = r at *
  obtain ⟨op, s, k⟩ := n
  simp only at h5 ar
  refine ret_of_awp tab Try.func36 rfl rfl (Nat.le_of_ble_eq_true rfl) (fun w0 F0 => ?_)
  repeat' (first | refine stopA 2 tt ?_ | refine wG ?_ | refine wR ?_ | refine wS ?_ ?_ <;> intro _ | refine finG ?_)
  refine stopOut ?_
  refine awp_slots [(0, .d (ndsD e)), (1, .d (.int .i64 p)), (2, .d (fsD al)), (8, .ptr 8 0)] [(8, .box ndT [.d (.int .i64 op), .d (.str s), .d (.int .i64 k)])] ⟨rfl, rfl, rfl, rfl, rfl⟩ ⟨bxEq hn, trivial⟩ ?_
  repeat' (first | refine wC A ?_ | refine wG ?_ | refine wC ar ?_ | refine wR ?_ | refine wS ?_ ?_ <;> intro _ | refine finTG ?_)
  all_goals exact leT
theorem ls_un (e : List Nd) (p : Nat) (al : List Fc) (k : Nat) (hn : e.getD p nd0 = ((10 : Int), ([] : List UInt8), (k : Int))) (hp : p < e.length) (he : e.length ≤ 1000) (hk : 1 ≤ k ∧ k ≤ 6) (x : List Nat) (ox : TmOk 64 x) (A : Ret Try.prog 36 [ndsD e, .int .i64 ((p : Int) + 1), fsD al] (· = .tup [tsD x, .bool true])) : Ret Try.prog 36 [ndsD e, .int .i64 p, fsD al] (· = .tup [tsD (if fitsM (powM x (k - 1)) = true then powM x (k - 1) else []), .bool (fitsM (powM x (k - 1)))]) := by
  have ar := ref_Arity 10
  rw [show arity 10 = 1 from rfl] at ar
  have st := fun j (h : fitsM (powM x j) = true) => ref10_star (powM x j) x (by have := fitsM_len h; omega) (by have := fitsM_len ox.fit; omega) (ox.bd.pow j) ox.bd
  have ft := fun j (h : fitsM (powM x j) = true) => ref10_fits (powM x (j + 1)) (by have := starM_le (a := powM x j) (b := x) (by have := fitsM_len h; omega) (by have := fitsM_len ox.fit; omega); show (starM (powM x j) x).length ≤ _; omega) (ox.bd.pow (j + 1))
  have fl := fun j (h : j ≤ k - 1) (hf : fitsM (powM x (k - 1)) = true) => fits_pow_le ox.nd (k := j) (j := k - 1 - j) (by rw [show j + (k - 1 - j) = k - 1 by omega]; exact hf)
  obtain ⟨P, hP⟩ : ∃ P : Nat → List Nat, ∀ i, powM x i = P i := ⟨_, fun _ => rfl⟩
  have p0 : P 0 = x := by rw [← hP]; rfl
  have f0 : fitsM (P 0) = true := by rw [p0]; exact ox.fit
  have st : ∀ j, fitsM (P j) = true → Ret Try.prog 73 [tsD (P j), tsD x] (· = tsD (P (j + 1))) := fun j h => by
    have := st j (by rw [hP]; exact h)
    rw [hP, show starM (P j) x = P (j + 1) by rw [← hP, ← hP]; rfl] at this
    exact this
  have ft : ∀ j, fitsM (P j) = true → Ret Try.prog 71 [tsD (P (j + 1))] (· = .bool (fitsM (P (j + 1)))) := fun j h => by
    have := ft j (by rw [hP]; exact h)
    rw [hP] at this; exact this
  have fl : ∀ j, j ≤ k - 1 → fitsM (P (k - 1)) = true → fitsM (P j) = true := fun j h hf => by
    have := fl j h (by rw [hP]; exact hf)
    rw [hP] at this; exact this
  rw [hP]
  clear hP
  generalize fitsM = F at *
  have oxx := ox
  clear ox oxx
  refine ret_of_awp tab Try.func36 rfl rfl (Nat.le_of_ble_eq_true rfl) (fun w0 F0 => ?_)
  repeat' (first | refine stopA 2 tt ?_ | refine wG ?_ | refine wR ?_ | refine wS ?_ ?_ <;> intro _ | refine finG ?_)
  refine stopOut ?_
  refine awp_slots [(0, .d (ndsD e)), (1, .d (.int .i64 p)), (2, .d (fsD al)), (8, .ptr 8 0)] [(8, .box ndT [.d (.int .i64 10), .d (.str []), .d (.int .i64 k)])] ⟨rfl, rfl, rfl, rfl, rfl⟩ ⟨bxEq hn, trivial⟩ ?_
  repeat' (first | refine wC A ?_ | refine wG ?_ | refine wC ar ?_ | refine wR ?_ | refine wS ?_ ?_ <;> intro _ | refine finTG ?_)
  refine awp_loop1 (fun (j : Nat) => ([(8, .ptr 8 0), (9, .d (tsD x)), (11, .d (tsD (P j))), (12, .d (.int .i64 ((j + 1 : Nat) : Int)))], [(8, .box ndT [.d (.int .i64 10), .d (.str []), .d (.int .i64 k)])])) (fun j => j ≤ k - 1 ∧ F (P j) = true) (fun j => k - 1 - j) 0 ⟨by omega, f0⟩ ⟨rfl, rfl, tsEq p0.symm, rfl, rfl⟩ ⟨rfl, trivial⟩ (fun j hi => ?_)
  obtain ⟨i1, i2⟩ := hi
  by_cases h3 : j < k - 1
  · have s1 := st j i2
    have f1 := ft j i2
    cases hf : F (P (j + 1)) with
    | true =>
      rw [hf] at f1
      clear st ft fl
      repeat' (first | refine wG ?_ | refine wC s1 ?_ | refine wC f1 ?_ | refine wR ?_ | refine wS ?_ ?_ <;> intro _ | refine finTG ?_)
      exact ⟨j + 1, ⟨by omega, hf⟩, by omega, ⟨rfl, rfl, rfl, iv (by omega), rfl⟩, rfl, trivial⟩
    | false =>
      have hF : F (P (k - 1)) = false := by
        cases q : F (P (k - 1)) with
        | false => rfl
        | true => rw [fl (j + 1) (by omega) q] at hf; cases hf
      rw [hf] at f1
      rw [hF]
      clear st ft fl
      repeat' (first | refine wG ?_ | refine wC s1 ?_ | refine wC f1 ?_ | refine wR ?_ | refine wS ?_ ?_ <;> intro _ | refine finTG ?_)
      all_goals exact leT
  · have e1 : j = k - 1 := by omega
    subst e1
    rw [i2]
    clear st ft fl
    repeat' (first | refine wG ?_ | refine wR ?_ | refine wS ?_ ?_ <;> intro _ | refine finTG ?_)
    all_goals exact leT
end Go.Proofs.Ytjooknpgcjicbaa
