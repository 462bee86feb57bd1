/-
  Contracts of functions of the program, and the layer that they are walked with: F10 F11 VZ F12 F13 F14 F15 VPe F09 F16 FmK F20 F21 F22. Conditions: as each says.
-/
import Derived.Stop.IfaceNil
import Derived.KernelRfl
import Derived.Laws.StructEq
import Derived.Test.YtfnonogemgnlhaaDoorA06
/-
  The reference's reader: signs, words, digits. Conditions: the text is not too long.
-/
set_option linter.unusedVariables false
set_option linter.unusedSimpArgs false
set_option maxHeartbeats 8000000
namespace Go.Proofs.YtfnonogemgnlhaaDoor
open Go.Vw
attribute [local irreducible] awp awpL awpR

abbrev rdB (t : List UInt8) (a er pl : Int) : Blk := .box 49 [.d (.str t), .d (.int .i64 a), .d (.int .i64 er), .d (.int .i64 pl)]
abbrev rW (t : List UInt8) (a : Nat) (er pl : Int) : List (Nat × Blk) := [(600, rdB t a er pl)]
theorem rdEq {t : List UInt8} {a a' er pl : Int} (h : a = a') : some (rdB t a er pl) = some (rdB t a' er pl) := by rw [h]
theorem ref_blanks (t : List UInt8) (a : Nat) (er pl : Int) (hl : t.length < 1000000) (ha : a ≤ t.length + 10) : RetB Tryd.prog 46 [.ptr 600 0] (lookB (rW t a er pl)) (.tup []) (lookB (rW t (skp t a) er pl)) := by
  have hge := skp_ge t a
  have hmx := skp_max t a
  have hin := fun j (h : a ≤ j) (h2 : j < skp t a) => runE_in isBl (t := t) h h2
  have hst := fun h => runE_stop isBl (t := t) (i := a) h
  rw [show runE isBl t a = skp t a from rfl] at hst
  generalize skp t a = n at *
  refine retB_of_awp tab [600] Tryd.func46 rfl rfl rfl (Nat.le_of_ble_eq_true rfl) rfl ⟨Nat.le_refl _, trivial⟩ (fun w0 F0 A io0 => ?_)
  repeat' (first | refine wG ?_ | refine rg 0 19 ?_ | refine wR ?_ | refine wS ?_ ?_ <;> intro _ | refine wB ?_ ?_ | refine wF ?_)
  refine awp_loop1 (fun (j : Nat) => ([(0, .ptr 600 0)], rW t j er pl)) (fun j => a ≤ j ∧ j ≤ n) (fun j => n - j) a ⟨Nat.le_refl _, hge⟩ ⟨rfl, rfl⟩ ⟨rfl, trivial⟩ (fun j hj => ?_)
  by_cases g : j < n
  · have q := hin j hj.1 g
    rw [isBl_nat, decide_eq_true_eq] at q
    by_cases hjl : j < t.length
    · clear hin hst
      repeat' (first | refine wG ?_ | refine rg 0 19 ?_ | refine wR ?_ | refine wS ?_ ?_ <;> intro _ | refine wB ?_ ?_ | refine wF ?_)
      exact ⟨j + 1, by omega, by omega, ⟨rfl, rfl⟩, rdEq (by omega), trivial⟩
    · exfalso
      have : t.getD j 0 = 0 := by rw [List.getD_eq_getElem?_getD, List.getElem?_eq_none (by omega)]; rfl
      rw [this] at q; revert q; decide
  · have e : j = n := by omega
    subst e
    by_cases hn : j < t.length
    · have q := hst hn
      rw [isBl_nat, decide_eq_false_iff_not] at q
      clear hin hst
      repeat' (first | refine wG ?_ | refine rg 0 19 ?_ | refine wR ?_ | refine wS ?_ ?_ <;> intro _ | refine wB ?_ ?_ | refine wF ?_)
      all_goals first | exact leVT | exact ⟨rfl, trivial⟩
    · clear hin hst
      repeat' (first | refine wG ?_ | refine rg 0 19 ?_ | refine wR ?_ | refine wS ?_ ?_ <;> intro _ | refine wB ?_ ?_ | refine wF ?_)
      all_goals first | exact leVT | exact ⟨rfl, trivial⟩
theorem ref_sign (t : List UInt8) (a : Nat) (er pl v : Int) (hl : t.length < 1000000) (ha : a ≤ t.length + 10) (hv : (er = 0 ∧ v = sgI t (skp t a)) ∨ (er ≠ 0 ∧ v = 0)) : RetB Tryd.prog 25 [.ptr 600 0] (lookB (rW t a er pl)) (.d (.int .u8 v)) (lookB (rW t (skp t a) er pl)) := by
  have b := ref_blanks t a er pl hl ha
  have hmx := skp_max t a
  generalize skp t a = i at *
  rcases hv with ⟨h1, h2⟩ | ⟨h1, h2⟩
  · subst h1
    unfold sgI at h2
    by_cases h3 : i < t.length
    · rw [if_pos h3] at h2
      subst h2
      refine retB_of_awp tab [600] Tryd.func25 rfl rfl rfl (Nat.le_of_ble_eq_true rfl) rfl ⟨Nat.le_refl _, trivial⟩ (fun w0 F0 A io0 => ?_)
      repeat' (first | refine wG ?_ | refine wD [] b ?_ | refine rg 2 15 ?_ | refine rg 4 8 ?_ | refine wR ?_ | refine wS ?_ ?_ <;> intro _ | refine wB ?_ ?_ | refine wF ?_)
      all_goals first | exact leVT | exact ⟨rfl, trivial⟩
    · rw [if_neg h3] at h2
      subst h2
      refine retB_of_awp tab [600] Tryd.func25 rfl rfl rfl (Nat.le_of_ble_eq_true rfl) rfl ⟨Nat.le_refl _, trivial⟩ (fun w0 F0 A io0 => ?_)
      repeat' (first | refine wG ?_ | refine wD [] b ?_ | refine rg 2 15 ?_ | refine rg 4 8 ?_ | refine wR ?_ | refine wS ?_ ?_ <;> intro _ | refine wB ?_ ?_ | refine wF ?_)
      all_goals first | exact leVT | exact ⟨rfl, trivial⟩
  · subst h2
    refine retB_of_awp tab [600] Tryd.func25 rfl rfl rfl (Nat.le_of_ble_eq_true rfl) rfl ⟨Nat.le_refl _, trivial⟩ (fun w0 F0 A io0 => ?_)
    repeat' (first | refine wG ?_ | refine wD [] b ?_ | refine rg 2 15 ?_ | refine rg 4 8 ?_ | refine wR ?_ | refine wS ?_ ?_ <;> intro _ | refine wB ?_ ?_ | refine wF ?_)
    all_goals first | exact leVT | exact ⟨rfl, trivial⟩
theorem ref_take (t : List UInt8) (a : Nat) (er pl v c : Int) (hl : t.length < 1000000) (ha : a ≤ t.length + 10) (hv : (er = 0 ∧ v = sgI t (skp t a)) ∨ (er ≠ 0 ∧ v = 0)) : RetB Tryd.prog 42 [.ptr 600 0, .d (.int .u8 c)] (lookB (rW t a er pl)) (.d (.bool (decide (v = c)))) (lookB (rW t (if v = c then skp t a + 1 else skp t a) er pl)) := by
  have s := ref_sign t a er pl v hl ha hv
  have hmx := skp_max t a
  generalize skp t a = i at *
  by_cases h : v = c
  · rw [if_pos h, decide_eq_true h]
    clear hv
    refine retB_of_awp tab [600] Tryd.func42 rfl rfl rfl (Nat.le_of_ble_eq_true rfl) rfl ⟨Nat.le_refl _, trivial⟩ (fun w0 F0 A io0 => ?_)
    repeat' (first | refine wG ?_ | refine wD [] s ?_ | refine wR ?_ | refine wS ?_ ?_ <;> intro _ | refine wB ?_ ?_ | refine wF ?_)
    all_goals first | exact leVT | exact ⟨rdEq (by omega), trivial⟩
  · rw [if_neg h, decide_eq_false h]
    clear hv
    refine retB_of_awp tab [600] Tryd.func42 rfl rfl rfl (Nat.le_of_ble_eq_true rfl) rfl ⟨Nat.le_refl _, trivial⟩ (fun w0 F0 A io0 => ?_)
    repeat' (first | refine wG ?_ | refine wD [] s ?_ | refine wR ?_ | refine wS ?_ ?_ <;> intro _ | refine wB ?_ ?_ | refine wF ?_)
    all_goals first | exact leVT | exact ⟨rfl, trivial⟩
theorem ref_fail0 (t : List UInt8) (a : Nat) (pl e : Int) : RetB Tryd.prog 26 [.ptr 600 0, .d (.int .i64 e)] (lookB (rW t a 0 pl)) (.tup []) (lookB (rW t a e a)) := by
  refine retB_of_awp tab [600] Tryd.func26 rfl rfl rfl (Nat.le_of_ble_eq_true rfl) rfl ⟨Nat.le_refl _, trivial⟩ (fun w0 F0 A io0 => ?_)
  repeat' (first | refine wG ?_ | refine wR ?_ | refine wS ?_ ?_ <;> intro _ | refine wB ?_ ?_ | refine wF ?_)
  all_goals first | exact leVT | exact ⟨rfl, trivial⟩
theorem ref_failE (t : List UInt8) (a : Nat) (er pl e : Int) (h : er ≠ 0) : RetB Tryd.prog 26 [.ptr 600 0, .d (.int .i64 e)] (lookB (rW t a er pl)) (.tup []) (lookB (rW t a er pl)) := by
  refine retB_of_awp tab [600] Tryd.func26 rfl rfl rfl (Nat.le_of_ble_eq_true rfl) rfl ⟨Nat.le_refl _, trivial⟩ (fun w0 F0 A io0 => ?_)
  repeat' (first | refine wG ?_ | refine wR ?_ | refine wS ?_ ?_ <;> intro _ | refine wB ?_ ?_ | refine wF ?_)
  all_goals first | exact leVT | exact ⟨rfl, trivial⟩
end Go.Proofs.YtfnonogemgnlhaaDoor

/-
  The reference's reader: what has to come, words, names, digits, exponents. Conditions: the text is not too long.
-/
set_option maxHeartbeats 8000000
namespace Go.Proofs.YtfnonogemgnlhaaDoor
open Go.Vw
attribute [local irreducible] awp awpL awpR

theorem ref_wantY (t : List UInt8) (a : Nat) (pl c : Int) (hl : t.length < 1000000) (ha : a ≤ t.length + 10) (h : sgI t (skp t a) = c) : RetB Tryd.prog 23 [.ptr 600 0, .d (.int .u8 c)] (lookB (rW t a 0 pl)) (.tup []) (lookB (rW t (skp t a + 1) 0 pl)) := by
  have k := ref_take t a 0 pl _ c hl ha (.inl ⟨rfl, rfl⟩)
  rw [if_pos h, decide_eq_true h] at k
  generalize skp t a = i at *
  clear h
  refine retB_of_awp tab [600] Tryd.func23 rfl rfl rfl (Nat.le_of_ble_eq_true rfl) rfl ⟨Nat.le_refl _, trivial⟩ (fun w0 F0 A io0 => ?_)
  repeat' (first | refine wG ?_ | refine wD [] k ?_ | refine wR ?_ | refine wS ?_ ?_ <;> intro _ | refine wB ?_ ?_ | refine wF ?_)
  all_goals first | exact leVT | exact ⟨rfl, trivial⟩
theorem ref_wantN (t : List UInt8) (a : Nat) (pl c : Int) (hl : t.length < 1000000) (ha : a ≤ t.length + 10) (h : sgI t (skp t a) ≠ c) : RetB Tryd.prog 23 [.ptr 600 0, .d (.int .u8 c)] (lookB (rW t a 0 pl)) (.tup []) (lookB (rW t (skp t a) 3 (skp t a))) := by
  have k := ref_take t a 0 pl _ c hl ha (.inl ⟨rfl, rfl⟩)
  rw [if_neg h, decide_eq_false h] at k
  generalize skp t a = i at *
  have f := ref_fail0 t i pl 3
  clear h
  refine retB_of_awp tab [600] Tryd.func23 rfl rfl rfl (Nat.le_of_ble_eq_true rfl) rfl ⟨Nat.le_refl _, trivial⟩ (fun w0 F0 A io0 => ?_)
  repeat' (first | refine wG ?_ | refine wD [] k ?_ | refine wD [] f ?_ | refine wR ?_ | refine wS ?_ ?_ <;> intro _ | refine wB ?_ ?_ | refine wF ?_)
  all_goals first | exact leVT | exact ⟨rfl, trivial⟩
theorem ref_wantE (t : List UInt8) (a : Nat) (er pl c : Int) (hl : t.length < 1000000) (ha : a ≤ t.length + 10) (he : er ≠ 0) (hc : c ≠ 0) : RetB Tryd.prog 23 [.ptr 600 0, .d (.int .u8 c)] (lookB (rW t a er pl)) (.tup []) (lookB (rW t (skp t a) er pl)) := by
  have k := ref_take t a er pl 0 c hl ha (.inr ⟨he, rfl⟩)
  rw [if_neg (fun e => hc e.symm), decide_eq_false (fun e => hc e.symm)] at k
  generalize skp t a = i at *
  have f := ref_failE t i er pl 3 he
  refine retB_of_awp tab [600] Tryd.func23 rfl rfl rfl (Nat.le_of_ble_eq_true rfl) rfl ⟨Nat.le_refl _, trivial⟩ (fun w0 F0 A io0 => ?_)
  repeat' (first | refine wG ?_ | refine wD [] k ?_ | refine wD [] f ?_ | refine wR ?_ | refine wS ?_ ?_ <;> intro _ | refine wB ?_ ?_ | refine wF ?_)
  all_goals first | exact leVT | exact ⟨rfl, trivial⟩
theorem ref_wordE (t : List UInt8) (a : Nat) (er pl : Int) (hl : t.length < 1000000) (ha : a ≤ t.length + 10) (he : (er = 0 ∧ sgI t (skp t a) = 0) ∨ er ≠ 0) : RetB Tryd.prog 41 [.ptr 600 0] (lookB (rW t a er pl)) (.d (.str [])) (lookB (rW t (skp t a) er pl)) := by
  have k := ref_sign t a er pl 0 hl ha (by rcases he with h | h; exact .inl ⟨h.1, h.2.symm⟩; exact .inr ⟨h, rfl⟩)
  have l : Ret Tryd.prog 57 [.int .u8 0] (· = .bool false) := ref08_Letter 0
  generalize skp t a = i at *
  clear he
  refine retB_of_awp tab [600] Tryd.func41 rfl rfl rfl (Nat.le_of_ble_eq_true rfl) rfl ⟨Nat.le_refl _, trivial⟩ (fun w0 F0 A io0 => ?_)
  repeat' (first | refine wG ?_ | refine wD [] k ?_ | refine wC l ?_ | refine rg 6 9 ?_ | refine wR ?_ | refine wS ?_ ?_ <;> intro _ | refine wB ?_ ?_ | refine wF ?_)
  all_goals first | exact leVT | exact ⟨rfl, trivial⟩
theorem ref_word (t : List UInt8) (a : Nat) (pl : Int) (hl : t.length < 1000000) (ha : a ≤ t.length) : RetB Tryd.prog 41 [.ptr 600 0] (lookB (rW t a 0 pl)) (.d (.str (wordR t (skp t a)))) (lookB (rW t (skp t a) 0 pl)) := by
  have hmx := skp_max t a
  by_cases hi : skp t a < t.length
  · have k := ref_sign t a 0 pl _ hl (by omega) (.inl ⟨rfl, rfl⟩)
    generalize skp t a = i at *
    have l := ref08_Letter (t.getD i 0)
    unfold sgI at k
    rw [if_pos hi] at k
    unfold wordR
    cases h : isLet (t.getD i 0) with
    | false =>
      rw [h] at l
      rw [if_neg (by simp)]
      refine retB_of_awp tab [600] Tryd.func41 rfl rfl rfl (Nat.le_of_ble_eq_true rfl) rfl ⟨Nat.le_refl _, trivial⟩ (fun w0 F0 A io0 => ?_)
      repeat' (first | refine wG ?_ | refine wD [] k ?_ | refine wC l ?_ | refine rg 6 9 ?_ | refine wR ?_ | refine wS ?_ ?_ <;> intro _ | refine wB ?_ ?_ | refine wF ?_)
      all_goals first | exact leVT | exact ⟨rfl, trivial⟩
    | true =>
      rw [h] at l
      rw [if_pos ⟨hi, rfl⟩]
      unfold word
      rw [wend_let hi h]
      have hge := runE_ge isInn t i
      have hle := runE_le isInn (t := t) (i := i) (by omega)
      have hin := fun j (h : i ≤ j) (h2 : j < runE isInn t i) => runE_in isInn (t := t) h h2
      have hst := fun h => runE_stop isInn (t := t) (i := i) h
      generalize runE isInn t i = n at *
      have hc := fun j => ref08_Inner (t.getD j 0)
      clear h
      refine retB_of_awp tab [600] Tryd.func41 rfl rfl rfl (Nat.le_of_ble_eq_true rfl) rfl ⟨Nat.le_refl _, trivial⟩ (fun w0 F0 A io0 => ?_)
      repeat' (first | refine wG ?_ | refine wD [] k ?_ | refine wC l ?_ | refine rg 6 9 ?_ | refine wR ?_ | refine wS ?_ ?_ <;> intro _ | refine wB ?_ ?_ | refine wF ?_)
      refine awp_loop1 (fun (j : Nat) => ([(0, .ptr 600 0), (3, .d (.int .i64 j))], rW t i 0 pl)) (fun j => i ≤ j ∧ j ≤ n) (fun j => n - j) i ⟨Nat.le_refl _, hge⟩ ⟨rfl, rfl, rfl⟩ ⟨rfl, trivial⟩ (fun j hj => ?_)
      have c := hc j
      clear hc k l
      by_cases g : j < n
      · rw [hin j hj.1 g] at c
        clear hin hst
        repeat' (first | refine wG ?_ | refine wC c ?_ | refine rg 6 9 ?_ | refine wR ?_ | refine wS ?_ ?_ <;> intro _ | refine wB ?_ ?_ | refine wF ?_)
        exact ⟨j + 1, by omega, by omega, ⟨rfl, iv (by omega), rfl⟩, rfl, trivial⟩
      · have e : j = n := by omega
        subst e
        by_cases hn : j < t.length
        · rw [hst hn] at c
          clear hin hst
          repeat' (first | refine wG ?_ | refine wC c ?_ | refine rg 6 9 ?_ | refine wR ?_ | refine wS ?_ ?_ <;> intro _ | refine wB ?_ ?_ | refine wF ?_)
          all_goals first | exact leVT | exact ⟨rfl, trivial⟩
        · clear hin hst c
          repeat' (first | refine wG ?_ | refine rg 6 9 ?_ | refine wR ?_ | refine wS ?_ ?_ <;> intro _ | refine wB ?_ ?_ | refine wF ?_)
          all_goals first | exact leVT | exact ⟨rfl, trivial⟩
  · have h0 : sgI t (skp t a) = 0 := by unfold sgI; rw [if_neg hi]
    have := ref_wordE t a 0 pl hl (by omega) (.inl ⟨rfl, h0⟩)
    unfold wordR
    rw [if_neg (fun h => hi h.1)]
    exact this
theorem ref_nameE (t : List UInt8) (a : Nat) (er pl : Int) (hl : t.length < 1000000) (ha : a ≤ t.length + 10) (he : er ≠ 0) : RetB Tryd.prog 22 [.ptr 600 0] (lookB (rW t a er pl)) (.d (.str [])) (lookB (rW t (skp t a) er pl)) := by
  have w := ref_wordE t a er pl hl ha (.inr he)
  have n : Ret Tryd.prog 31 [.str []] (· = .bool false) := ref08_Name []
  generalize skp t a = i at *
  have f := ref_failE t i er pl 3 he
  refine retB_of_awp tab [600] Tryd.func22 rfl rfl rfl (Nat.le_of_ble_eq_true rfl) rfl ⟨Nat.le_refl _, trivial⟩ (fun w0 F0 A io0 => ?_)
  repeat' (first | refine wG ?_ | refine wD [] w ?_ | refine wD [] f ?_ | refine wC n ?_ | refine wR ?_ | refine wS ?_ ?_ <;> intro _ | refine wB ?_ ?_ | refine wF ?_)
  all_goals first | exact leVT | exact ⟨rfl, trivial⟩
theorem ref_nameN (t : List UInt8) (a : Nat) (pl : Int) (hl : t.length < 1000000) (ha : a ≤ t.length) (h : isName (word t (skp t a)) = false) : RetB Tryd.prog 22 [.ptr 600 0] (lookB (rW t a 0 pl)) (.d (.str [])) (lookB (rW t (skp t a) 3 (skp t a))) := by
  have w := ref_word t a pl hl ha
  have n := ref08_Name (wordR t (skp t a))
  rw [(wordR_name t (skp t a)).1, h] at n
  generalize wordR t (skp t a) = v at *
  generalize skp t a = i at *
  have f := ref_fail0 t i pl 3
  clear h
  refine retB_of_awp tab [600] Tryd.func22 rfl rfl rfl (Nat.le_of_ble_eq_true rfl) rfl ⟨Nat.le_refl _, trivial⟩ (fun w0 F0 A io0 => ?_)
  repeat' (first | refine wG ?_ | refine wD [] w ?_ | refine wD [] f ?_ | refine wC n ?_ | refine wR ?_ | refine wS ?_ ?_ <;> intro _ | refine wB ?_ ?_ | refine wF ?_)
  all_goals first | exact leVT | exact ⟨rfl, trivial⟩
theorem ref_nameY (t : List UInt8) (a : Nat) (pl : Int) (hl : t.length < 1000000) (ha : a ≤ t.length) (h : isName (word t (skp t a)) = true) : RetB Tryd.prog 22 [.ptr 600 0] (lookB (rW t a 0 pl)) (.d (.str (word t (skp t a)))) (lookB (rW t (wend t (skp t a)) 0 pl)) := by
  have w := ref_word t a pl hl ha
  have n := ref08_Name (wordR t (skp t a))
  rw [(wordR_name t (skp t a)).1, h] at n
  rw [(wordR_name t (skp t a)).2 h] at n w
  have hmx := skp_max t a
  have hlen := word_len (t := t) (i := skp t a) (by omega)
  have hlt := wend_gt (lt_of_word (isName_ne h))
  have hle := wend_le t (skp t a)
  generalize word t (skp t a) = v at *
  generalize wend t (skp t a) = j at *
  generalize skp t a = i at *
  clear h
  refine retB_of_awp tab [600] Tryd.func22 rfl rfl rfl (Nat.le_of_ble_eq_true rfl) rfl ⟨Nat.le_refl _, trivial⟩ (fun w0 F0 A io0 => ?_)
  repeat' (first | refine wG ?_ | refine wD [] w ?_ | refine wC n ?_ | refine wR ?_ | refine wS ?_ ?_ <;> intro _ | refine wB ?_ ?_ | refine wF ?_)
  all_goals first | exact leVT | exact ⟨rdEq (by omega), trivial⟩
def dgI (t : List UInt8) (i : Nat) : Int := match digP t i with | some n => n | none => -1
theorem ref_digitE (t : List UInt8) (a : Nat) (er pl : Int) (hl : t.length < 1000000) (ha : a ≤ t.length + 10) (he : (er = 0 ∧ sgI t (skp t a) = 0) ∨ er ≠ 0) : RetB Tryd.prog 75 [.ptr 600 0] (lookB (rW t a er pl)) (.d (.int .i64 (-1))) (lookB (rW t (skp t a) er pl)) := by
  have k := ref_sign t a er pl 0 hl ha (by rcases he with h | h; exact .inl ⟨h.1, h.2.symm⟩; exact .inr ⟨h, rfl⟩)
  generalize skp t a = i at *
  clear he
  refine retB_of_awp tab [600] Tryd.func75 rfl rfl rfl (Nat.le_of_ble_eq_true rfl) rfl ⟨Nat.le_refl _, trivial⟩ (fun w0 F0 A io0 => ?_)
  repeat' (first | refine wG ?_ | refine wD [] k ?_ | refine rg 2 41 ?_ | refine wR ?_ | refine wS ?_ ?_ <;> intro _ | refine wB ?_ ?_ | refine wF ?_)
  all_goals first | exact leVT | exact ⟨rfl, trivial⟩
theorem ref_digit (t : List UInt8) (a : Nat) (pl : Int) (hl : t.length < 1000000) (ha : a ≤ t.length) : RetB Tryd.prog 75 [.ptr 600 0] (lookB (rW t a 0 pl)) (.d (.int .i64 (dgI t (skp t a)))) (lookB (rW t (skp t a) 0 pl)) := by
  have hmx := skp_max t a
  unfold dgI
  rw [digP_eq]
  by_cases hi : skp t a < t.length
  · have k := ref_sign t a 0 pl _ hl (by omega) (.inl ⟨rfl, rfl⟩)
    generalize skp t a = i at *
    unfold sgI at k
    rw [if_pos hi] at k
    rw [isDig_nat, isDig_nat]
    simp only [Bool.and_eq_true, decide_eq_true_eq]
    have r := u8_rng (t.getD i 0)
    have ec : (i : Int) + 1 = ((i + 1 : Nat) : Int) := by omega
    by_cases h1 : 48 ≤ ((t.getD i 0).toNat : Int) ∧ ((t.getD i 0).toNat : Int) ≤ 57
    · by_cases h2 : i + 1 < t.length
      · have e1 : ((i : Int) + 1).toNat = i + 1 := by omega
        by_cases h3 : 48 ≤ ((t.getD (i + 1) 0).toNat : Int) ∧ ((t.getD (i + 1) 0).toNat : Int) ≤ 57
        · rw [if_neg (fun h => h.2.2 ⟨h2, h3⟩)]
          dsimp only
          have h3b : 48 ≤ ((t.getD (i + nat_lit 1) 0).toNat : Int) ∧ ((t.getD (i + nat_lit 1) 0).toNat : Int) ≤ 57 := h3
          have h3c : 48 ≤ ((t.getD (Nat.succ i) 0).toNat : Int) ∧ ((t.getD (Nat.succ i) 0).toNat : Int) ≤ 57 := h3
          refine retB_of_awp tab [600] Tryd.func75 rfl rfl rfl (Nat.le_of_ble_eq_true rfl) rfl ⟨Nat.le_refl _, trivial⟩ (fun w0 F0 A io0 => ?_)
          repeat' (first | refine wG ?_ | refine wD [] k ?_ | refine rg 2 41 ?_ | refine wR ?_ | refine wS ?_ ?_ <;> intro _ | refine wB ?_ ?_ | refine wF ?_)
          all_goals first | exact leVT | exact ⟨rfl, trivial⟩
        · rw [if_pos ⟨hi, h1, fun h => h3 h.2⟩]
          dsimp only
          have h3b : ¬ (48 ≤ ((t.getD (i + nat_lit 1) 0).toNat : Int) ∧ ((t.getD (i + nat_lit 1) 0).toNat : Int) ≤ 57) := h3
          have h3c : ¬ (48 ≤ ((t.getD (Nat.succ i) 0).toNat : Int) ∧ ((t.getD (Nat.succ i) 0).toNat : Int) ≤ 57) := h3
          refine retB_of_awp tab [600] Tryd.func75 rfl rfl rfl (Nat.le_of_ble_eq_true rfl) rfl ⟨Nat.le_refl _, trivial⟩ (fun w0 F0 A io0 => ?_)
          repeat' (first | refine wG ?_ | refine wD [] k ?_ | refine rg 2 41 ?_ | refine wR ?_ | refine wS ?_ ?_ <;> intro _ | refine wB ?_ ?_ | refine wF ?_)
          all_goals first | exact leVT | exact ⟨rfl, trivial⟩
      · rw [if_pos ⟨hi, h1, fun h => h2 h.1⟩]
        dsimp only
        refine retB_of_awp tab [600] Tryd.func75 rfl rfl rfl (Nat.le_of_ble_eq_true rfl) rfl ⟨Nat.le_refl _, trivial⟩ (fun w0 F0 A io0 => ?_)
        repeat' (first | refine wG ?_ | refine wD [] k ?_ | refine rg 2 41 ?_ | refine wR ?_ | refine wS ?_ ?_ <;> intro _ | refine wB ?_ ?_ | refine wF ?_)
        all_goals first | exact leVT | exact ⟨rfl, trivial⟩
    · rw [if_neg (fun h => h1 h.2.1)]
      dsimp only
      refine retB_of_awp tab [600] Tryd.func75 rfl rfl rfl (Nat.le_of_ble_eq_true rfl) rfl ⟨Nat.le_refl _, trivial⟩ (fun w0 F0 A io0 => ?_)
      repeat' (first | refine wG ?_ | refine wD [] k ?_ | refine rg 2 41 ?_ | refine wR ?_ | refine wS ?_ ?_ <;> intro _ | refine wB ?_ ?_ | refine wF ?_)
      all_goals first | exact leVT | exact ⟨rfl, trivial⟩
  · have h0 : sgI t (skp t a) = 0 := by unfold sgI; rw [if_neg hi]
    have := ref_digitE t a 0 pl hl (by omega) (.inl ⟨rfl, h0⟩)
    rw [if_neg (fun h => hi h.1)]
    exact this
theorem ref_expE (t : List UInt8) (a lo hi : Nat) (er pl : Int) (hl : t.length < 1000000) (ha : a ≤ t.length + 9) (he : er ≠ 0) : RetB Tryd.prog 69 [.ptr 600 0, .d (.int .i64 lo), .d (.int .i64 hi)] (lookB (rW t a er pl)) (.d (.int .i64 (-1))) (lookB (rW t (skp t a + 1) er pl)) := by
  have d := ref_digitE t a er pl hl (by omega) (.inr he)
  have hmx := skp_max t a
  generalize skp t a = i at *
  have f := ref_failE t i er pl 3 he
  refine retB_of_awp tab [600] Tryd.func69 rfl rfl rfl (Nat.le_of_ble_eq_true rfl) rfl ⟨Nat.le_refl _, trivial⟩ (fun w0 F0 A io0 => ?_)
  repeat' (first | refine wG ?_ | refine wD [] d ?_ | refine wD [] f ?_ | refine wR ?_ | refine wS ?_ ?_ <;> intro _ | refine wB ?_ ?_ | refine wF ?_)
  all_goals first | exact leVT | exact ⟨rdEq (by omega), trivial⟩
theorem ref_expN (t : List UInt8) (a lo hi : Nat) (pl : Int) (hl : t.length < 1000000) (ha : a ≤ t.length) (x : PErr) (h : numP t lo hi (skp t a) = .error x) : RetB Tryd.prog 69 [.ptr 600 0, .d (.int .i64 lo), .d (.int .i64 hi)] (lookB (rW t a 0 pl)) (.d (.int .i64 (dgI t (skp t a)))) (lookB (rW t (skp t a + 1) x.2 x.1)) := by
  have d := ref_digit t a pl hl ha
  have hmx := skp_max t a
  unfold dgI at d ⊢
  unfold numP at h
  split at h
  · rename_i hd
    rw [hd] at d ⊢
    cases h
    generalize skp t a = i at *
    have f := ref_fail0 t i pl 3
    dsimp only at d ⊢
    refine retB_of_awp tab [600] Tryd.func69 rfl rfl rfl (Nat.le_of_ble_eq_true rfl) rfl ⟨Nat.le_refl _, trivial⟩ (fun w0 F0 A io0 => ?_)
    repeat' (first | refine wG ?_ | refine wD [] d ?_ | refine wD [] f ?_ | refine wR ?_ | refine wS ?_ ?_ <;> intro _ | refine wB ?_ ?_ | refine wF ?_)
    all_goals first | exact leVT | exact ⟨rdEq (by omega), trivial⟩
  · rename_i n hd
    rw [hd] at d ⊢
    split at h
    · cases h
    · rename_i hr
      cases h
      generalize skp t a = i at *
      have f := ref_fail0 t i pl 1
      dsimp only at d ⊢
      by_cases h1 : (n : Int) < lo
      · refine retB_of_awp tab [600] Tryd.func69 rfl rfl rfl (Nat.le_of_ble_eq_true rfl) rfl ⟨Nat.le_refl _, trivial⟩ (fun w0 F0 A io0 => ?_)
        repeat' (first | refine wG ?_ | refine wD [] d ?_ | refine wD [] f ?_ | refine wR ?_ | refine wS ?_ ?_ <;> intro _ | refine wB ?_ ?_ | refine wF ?_)
        all_goals first | exact leVT | exact ⟨rdEq (by omega), trivial⟩
      · refine retB_of_awp tab [600] Tryd.func69 rfl rfl rfl (Nat.le_of_ble_eq_true rfl) rfl ⟨Nat.le_refl _, trivial⟩ (fun w0 F0 A io0 => ?_)
        repeat' (first | refine wG ?_ | refine wD [] d ?_ | refine wD [] f ?_ | refine wR ?_ | refine wS ?_ ?_ <;> intro _ | refine wB ?_ ?_ | refine wF ?_)
        all_goals first | exact leVT | exact ⟨rdEq (by omega), trivial⟩
theorem ref_exp (t : List UInt8) (a lo hi n j : Nat) (pl : Int) (hl : t.length < 1000000) (ha : a ≤ t.length) (h : numP t lo hi (skp t a) = .ok (n, j)) : RetB Tryd.prog 69 [.ptr 600 0, .d (.int .i64 lo), .d (.int .i64 hi)] (lookB (rW t a 0 pl)) (.d (.int .i64 n)) (lookB (rW t (skp t a + 1) 0 pl)) := by
  have d := ref_digit t a pl hl ha
  have hmx := skp_max t a
  obtain ⟨b1, b2, b3, b4, b5, b6⟩ := numP_ok h
  unfold dgI at d
  rw [b6] at d
  dsimp only at d
  clear b1 b3 b6 h
  generalize skp t a = i at *
  refine retB_of_awp tab [600] Tryd.func69 rfl rfl rfl (Nat.le_of_ble_eq_true rfl) rfl ⟨Nat.le_refl _, trivial⟩ (fun w0 F0 A io0 => ?_)
  repeat' (first | refine wG ?_ | refine wD [] d ?_ | refine wR ?_ | refine wS ?_ ?_ <;> intro _ | refine wB ?_ ?_ | refine wF ?_)
  all_goals first | exact leVT | exact ⟨rdEq (by omega), trivial⟩
end Go.Proofs.YtfnonogemgnlhaaDoor

/-
  A variable's data in another form; reading a literal as a list. Conditions: as each says.
-/
namespace Go.Vw
section
variable {X : Ctx} {all : Array Oper} {s : St} {o : Oper} {Q : Exit → St → Prop} {rest : List Oper} {d : Tmp} {α : Type} {en : α → List D} {z : α} {l : List α}
theorem e_litO {e : TypeId} {sz len : Nat} {rows : List (List D)} {dst : Option Tmp} {op : Op} {ty : TypeId} {pos : String} {after : Array Edge} {g : Option (Nat × Bool)} (hdst : dst = some d) (hg : gd all s ⟨dst, op, ty, pos, after, g⟩ = some true) (hd : dstOk X.N (some d) = true) (hK : X.K.contains d = false) (h : evalB X.T s op = some (e, sz, len, rows)) (hr : LeR sz rows en l) :
    E1 X all s ⟨dst, op, ty, pos, after, g⟩ ((s.new d (.data e sz en z l)).put (some d) (.own d 0 len e sz)) := by
  subst hdst
  intro io F a w hs K Q hQ
  have hw := gd_sound (fun t _ => hs.tm t) hg
  obtain ⟨h1, arr, h2, h3, h4, h5⟩ := evalB_sound (P := X.P) (ev := a.eval) X.ok ⟨some d, op, ty, pos, after, g⟩ (fun y _ => hs.opd y) h
  obtain ⟨r1, r2⟩ := hr.spec
  have hlra : LRA F w (fun j => arr[j]?) 0 sz en l := fun i b hi => by
    have hlt : i < rows.length := by have := (List.getElem?_eq_some_iff.1 hi).1; omega
    obtain ⟨q1, q2⟩ := r2 i _ b (List.getElem?_eq_getElem hlt) hi
    obtain ⟨p1, p2⟩ := h5 i _ (List.getElem?_eq_getElem hlt)
    exact ⟨q2.1 ▸ q1, by rw [Nat.zero_add]; exact q2.2 F w _ _ p2⟩
  have hnb := hs.newBlk d (notMem hK) e arr (.data e sz en z l) (.inl ⟨_, _, _, _, _, rfl, hlra⟩)
  refine opWp_value hw h2 (hQ _ F _ _ (hnb.put (dstOk_sound hd) ?_))
  simp only [VR]
  refine .inr ⟨w.heap.size, len, _, updio_same _ _ _, by rw [Nat.zero_mul], by omega, by unfold maxLen; omega, heap_alloc_new w _, by simp [h3], ?_⟩
  show 0 + len ≤ (s.new d _).ln d
  rw [show (s.new d (.data e sz en z l)).ln d = _ from ln_of withBlk_same]
  simp [Blk.ln]; omega
theorem stepLitO {e : TypeId} {sz len : Nat} {rows : List (List D)} (hdst : o.dst = some d) (h : evalB X.T s o.op = some (e, sz, len, rows)) (hg : gd all s o = some true) (hd : dstOk X.N (some d) = true) (hK : X.K.contains d = false) (hr : LeR sz rows en l) (r : awpL X all rest Q ((s.new d (.data e sz en z l)).put (some d) (.own d 0 len e sz))) : awpL X all (o :: rest) Q s := by
  obtain ⟨dst, op, ty, pos, after, g⟩ := o
  exact awpL_step (e_litO hdst hg hd hK h hr) r
end
end Go.Vw

/-
  The reference's reader: operations, levels, operands. Conditions: the text is not too long.
-/
set_option maxHeartbeats 8000000
namespace Go.Proofs.YtfnonogemgnlhaaDoor
open Go.Vw
attribute [local irreducible] awp awpL awpR

theorem ref_level (v r : Int) : Ret Tryd.prog 44 [.int .u8 v, .int .i64 r] (· = .int .i64 (lvI r v)) := by
  unfold lvI
  refine ret_of_awp tab Tryd.func44 rfl rfl (Nat.le_of_ble_eq_true rfl) (fun w0 F0 => ?_)
  repeat' (first | refine wG ?_ | refine wR ?_ | refine wS ?_ ?_ <;> intro _ | refine finG ?_)
  all_goals (refine congrArg (D.int .i64) ?_; ((repeat' split) <;> omega))
abbrev n8B (l : List Nd) : Blk := .data ndT 3 ndC nd0 l
theorem ref_operation (op k : Int) (s : List UInt8) (L : List (List Nd)) (hn : L.flatten.length ≤ 10000000) (hl : L.length ≤ 1000) : Ret Tryd.prog 45 [.agg [.int .i64 op, .str s, .int .i64 k], nlD L] (· = ndsD ((op, s, k) :: L.flatten)) := by
  obtain ⟨E, hE⟩ : ∃ E : Nat → List Nd, ∀ i, E i = (op, s, k) :: (L.take i).flatten := ⟨fun i => (op, s, k) :: (L.take i).flatten, fun _ => rfl⟩
  have e0 : E 0 = [(op, s, k)] := by rw [hE]; rfl
  have eS : ∀ i, i < L.length → E (i + 1) = E i ++ L.getD i [] := fun i hi => by rw [hE, hE, take_flat hi]; rfl
  have eL : ∀ i, (E i).length ≤ 10000001 := fun i => by rw [hE]; have := flat_le L i; simp only [List.length_cons]; omega
  have eN : (op, s, k) :: L.flatten = E L.length := by rw [hE, List.take_of_length_le (Nat.le_refl _)]
  rw [eN]
  clear hE eN hn
  refine ret_of_awp tab Tryd.func45 rfl rfl (Nat.le_of_ble_eq_true rfl) (fun w0 F0 => ?_)
  repeat' (first | refine stepLitO (d := 8) (en := ndC) (z := nd0) (l := [(op, s, k)]) rfl rfl rfl rfl rfl (LeR.cons rfl leL LeR.nil) ?_ | refine wG ?_ | refine wR ?_ | refine wS ?_ ?_ <;> intro _ | refine finG ?_)
  refine awp_loop1 (fun (i : Nat) => ([(1, .d (nlD L)), (5, .own 8 0 (E i).length ndT 3), (6, .d (.int .i64 i))], [(8, n8B (E i))])) (fun i => i ≤ L.length) (fun i => L.length - i) 0 (by omega) ⟨rfl, (by rw [e0]; rfl), rfl, rfl⟩ ⟨by rw [e0]; rfl, trivial⟩ (fun i hi => ?_)
  have hel := eL i
  by_cases g : i < L.length
  · have st := eS i g
    have hel2 := eL (i + 1)
    have sl : (E (i + 1)).length = (E i).length + (L.getD i []).length := by rw [st, List.length_append]
    clear eS eL
    repeat' (first | refine wG ?_ | refine wR ?_ | refine wS ?_ ?_ <;> intro _ | refine finG ?_)
    exact ⟨i + 1, by omega, by omega, ⟨rfl, by rw [st]; rfl, iv (by omega), rfl⟩, by rw [st]; rfl, trivial⟩
  · have e : i = L.length := by omega
    subst e
    clear eS eL
    repeat' (first | refine wG ?_ | refine wR ?_ | refine wS ?_ ?_ <;> intro _ | refine finG ?_)
    rfl
end Go.Proofs.YtfnonogemgnlhaaDoor

/-
  The reference's reader: operands, expressions. Conditions: the text is not too long.
-/
set_option maxHeartbeats 8000000
namespace Go.Proofs.YtfnonogemgnlhaaDoor
open Go.Vw
attribute [local irreducible] awp awpL awpR

abbrev g0 : Nd := ((1 : Int), [], (0 : Int))
def RdR (f : FuncId) (args : List V) (t : List UInt8) (a : Nat) (pl : Int) : Pos (List Nd) → Prop
  | .ok (e, j) => ∃ a', a' ≤ t.length ∧ skp t a' = j ∧ RetB Tryd.prog f args (lookB (rW t a 0 pl)) (.d (ndsD e)) (lookB (rW t a' 0 pl))
  | .error x => ∃ M a', a' ≤ t.length + 1 ∧ M.length ≤ t.length - skp t a + 2 ∧ RetB Tryd.prog f args (lookB (rW t a 0 pl)) (.d (ndsD M)) (lookB (rW t a' x.2 x.1))
abbrev priA : List V := [.ptr 600 0]
abbrev binA (r : Nat) : List V := [.ptr 600 0, .d (.int .i64 r)]
theorem ref_primaryE (t : List UInt8) (a : Nat) (er pl : Int) (hl : t.length < 1000000) (ha : a ≤ t.length + 1) (he : er ≠ 0) : RetB Tryd.prog 68 priA (lookB (rW t a er pl)) (.d (ndsD [g0])) (lookB (rW t (skp t a) er pl)) := by
  have k := ref_take t a er pl 0 40 hl (by omega) (.inr ⟨he, rfl⟩)
  rw [if_neg (by decide), decide_eq_false (by decide)] at k
  have hmx := skp_max t a
  have ss := skp_skp t a
  generalize skp t a = i at *
  have d := ref_digitE t i er pl hl (by omega) (.inr he)
  have w := ref_wordE t i er pl hl (by omega) (.inr he)
  have n := ref_nameE t i er pl hl (by omega) he
  rw [ss] at d w n
  refine retB_of_awp tab [600] Tryd.func68 rfl rfl rfl (Nat.le_of_ble_eq_true rfl) rfl ⟨Nat.le_refl _, trivial⟩ (fun w0 F0 A io0 => ?_)
  repeat' (first | refine wG ?_ | refine wD [] k ?_ | refine wD [] d ?_ | refine wD [] w ?_ | refine wD [] n ?_ | refine wR ?_ | refine wS ?_ ?_ <;> intro _ | refine wB ?_ ?_ | refine wF ?_)
  all_goals first | exact leVT | exact ⟨rfl, trivial⟩
theorem ref_raisedE (t : List UInt8) (a : Nat) (er pl : Int) (hl : t.length < 1000000) (ha : a ≤ t.length + 1) (he : er ≠ 0) : RetB Tryd.prog 43 priA (lookB (rW t a er pl)) (.d (ndsD [g0])) (lookB (rW t (skp t a) er pl)) := by
  have p := ref_primaryE t a er pl hl ha he
  have hmx := skp_max t a
  have ss := skp_skp t a
  generalize skp t a = i at *
  have k := ref_take t i er pl 0 94 hl (by omega) (.inr ⟨he, rfl⟩)
  rw [if_neg (by decide), decide_eq_false (by decide), ss] at k
  refine retB_of_awp tab [600] Tryd.func43 rfl rfl rfl (Nat.le_of_ble_eq_true rfl) rfl ⟨Nat.le_refl _, trivial⟩ (fun w0 F0 A io0 => ?_)
  repeat' (first | refine wG ?_ | refine wD [] p ?_ | refine wR ?_ | refine wS ?_ ?_ <;> intro _ | refine wB ?_ ?_ | refine wF ?_)
  refine awp_loop1 (fun (_ : Unit) => ([(0, .ptr 600 0), (3, .d (ndsD [g0]))], rW t i er pl)) (fun _ => True) (fun _ => 0) () trivial ⟨rfl, rfl, rfl⟩ ⟨rfl, trivial⟩ (fun _ _ => ?_)
  repeat' (first | refine wG ?_ | refine wD [] k ?_ | refine wR ?_ | refine wS ?_ ?_ <;> intro _ | refine wB ?_ ?_ | refine wF ?_)
  all_goals first | exact leVT | exact ⟨rfl, trivial⟩
theorem ref_binaryE (t : List UInt8) (er pl : Int) (hl : t.length < 1000000) (he : er ≠ 0) : ∀ (d r a : Nat), r + d = 4 → a ≤ t.length + 1 → RetB Tryd.prog 24 (binA r) (lookB (rW t a er pl)) (.d (ndsD [g0])) (lookB (rW t (skp t a) er pl))
  | 0, r, a, h, ha => by
    have hr : r = 4 := by omega
    subst hr
    have p := ref_raisedE t a er pl hl ha he
    refine retB_of_awp tab [600] Tryd.func24 rfl rfl rfl (Nat.le_of_ble_eq_true rfl) rfl ⟨Nat.le_refl _, trivial⟩ (fun w0 F0 A io0 => ?_)
    repeat' (first | refine wG ?_ | refine wD [] p ?_ | refine wR ?_ | refine wS ?_ ?_ <;> intro _ | refine wB ?_ ?_ | refine wF ?_)
    all_goals first | exact leVT | exact ⟨rfl, trivial⟩
  | d + 1, r, a, h, ha => by
    have p := ref_binaryE t er pl hl he d (r + 1) a (by omega) ha
    have hmx := skp_max t a
    have ss := skp_skp t a
    generalize skp t a = i at *
    have s := ref_sign t i er pl 0 hl (by omega) (.inr ⟨he, rfl⟩)
    rw [ss] at s
    have lv := ref_level 0 r
    have l0 : lvI r 0 = 0 := by unfold lvI; simp
    rw [l0] at lv
    refine retB_of_awp tab [600] Tryd.func24 rfl rfl rfl (Nat.le_of_ble_eq_true rfl) rfl ⟨Nat.le_refl _, trivial⟩ (fun w0 F0 A io0 => ?_)
    repeat' (first | refine wG ?_ | refine wD [] p ?_ | refine wD [] s ?_ | refine wC lv ?_ | refine wR ?_ | refine wS ?_ ?_ <;> intro _ | refine wB ?_ ?_ | refine wF ?_)
    refine awp_loop1 (fun (_ : Unit) => ([(0, .ptr 600 0), (1, .d (.int .i64 r)), (5, .d (ndsD [g0])), (6, .d (.int .i64 0))], rW t i er pl)) (fun _ => True) (fun _ => 0) () trivial ⟨rfl, rfl, rfl, rfl, rfl⟩ ⟨rfl, trivial⟩ (fun _ _ => ?_)
    repeat' (first | refine wG ?_ | refine wR ?_ | refine wS ?_ ?_ <;> intro _ | refine wB ?_ ?_ | refine wF ?_)
    all_goals first | exact leVT | exact ⟨rfl, trivial⟩
def BrP (t : List UInt8) (p : Pos (List Nd)) : Pos (List Nd) → Prop
  | .error x => p = .error x
  | .ok (e, j) => (∃ x, mustP t 41 j = .error x ∧ p = .error x) ∨ ∃ k, mustP t 41 j = .ok k ∧ p = .ok (e, k)
theorem ref_primBr (t : List UInt8) (a : Nat) (pl : Int) (hl : t.length < 1000000) (ha : a ≤ t.length) (hw : word t (skp t a) = [40]) (o : Pos (List Nd)) (hB : RdR 24 (binA 1) t (skp t a + 1) pl o) (hg : Goes t (.lev 0) (nxt t (skp t a)) o) (p : Pos (List Nd)) (hp : BrP t p o) : RdR 68 priA t a pl p := by
  have hmx := skp_max t a
  have hs : sgI t (skp t a) = 40 := (word_sg (by decide) (by decide) (by decide)).1 hw
  have k := ref_take t a 0 pl _ 40 hl (by omega) (.inl ⟨rfl, rfl⟩)
  rw [if_pos hs, decide_eq_true hs] at k
  have hn := sg_nxt (by decide) (by decide) hw
  have hlt := sgI_lt hs (by decide)
  have h2 := nxt_gt hlt
  cases o with
  | error x =>
    have hp : p = .error x := hp
    subst hp
    obtain ⟨M, a', b1, b2, b3⟩ := hB
    have he : x.2 ≠ 0 := by have := hg.2.2.2; omega
    rw [← hn] at b2
    have w := ref_wantE t a' x.2 x.1 41 hl (by omega) he (by decide)
    have hm2 := skp_max t a'
    refine ⟨M, skp t a', by omega, by omega, ?_⟩
    generalize skp t a' = a2 at *
    generalize skp t a = i at *
    clear hw hs hn hg h2
    refine retB_of_awp tab [600] Tryd.func68 rfl rfl rfl (Nat.le_of_ble_eq_true rfl) rfl ⟨Nat.le_refl _, trivial⟩ (fun w0 F0 A io0 => ?_)
    repeat' (first | refine wG ?_ | refine wD [] k ?_ | refine wD [] b3 ?_ | refine wD [] w ?_ | refine wR ?_ | refine wS ?_ ?_ <;> intro _ | refine wB ?_ ?_ | refine wF ?_)
    all_goals first | exact leVT | exact ⟨rfl, trivial⟩
  | ok q =>
    obtain ⟨e, j⟩ := q
    obtain ⟨a', b1, b2, b3⟩ := hB
    subst b2
    have hj := hg.1.le
    have hlen := hg.2.2.1
    have hij := hg.2.1
    simp only [Kd.pre] at hlen
    rcases hp with ⟨x, hx, rfl⟩ | ⟨k2, hk, rfl⟩
    · obtain ⟨e1, e2⟩ := mustP_er hx
      subst e1
      have hne : sgI t (skp t a') ≠ 41 := fun h => e2 ((word_sg (by decide) (by decide) (by decide)).2 h)
      have w := ref_wantN t a' pl 41 hl (by omega) hne
      refine ⟨e, skp t a', by omega, by omega, ?_⟩
      show RetB _ _ _ _ _ (lookB (rW t (skp t a') 3 (skp t a')))
      generalize skp t a' = a2 at *
      generalize skp t a = i at *
      clear hw hs hn hg h2 hx e2
      refine retB_of_awp tab [600] Tryd.func68 rfl rfl rfl (Nat.le_of_ble_eq_true rfl) rfl ⟨Nat.le_refl _, trivial⟩ (fun w0 F0 A io0 => ?_)
      repeat' (first | refine wG ?_ | refine wD [] k ?_ | refine wD [] b3 ?_ | refine wD [] w ?_ | refine wR ?_ | refine wS ?_ ?_ <;> intro _ | refine wB ?_ ?_ | refine wF ?_)
      all_goals first | exact leVT | exact ⟨rfl, trivial⟩
    · obtain ⟨e1, e2, e3, e4⟩ := mustP_ok hk
      have hs2 : sgI t (skp t a') = 41 := (word_sg (by decide) (by decide) (by decide)).1 e4
      have hn2 := sg_nxt (by decide) (by decide) e4
      have hlt2 := sgI_lt hs2 (by decide)
      have w := ref_wantY t a' pl 41 hl (by omega) hs2
      refine ⟨skp t a' + 1, by omega, by rw [e3, hn2], ?_⟩
      generalize skp t a' = a2 at *
      generalize skp t a = i at *
      clear hw hs hn hg h2 hk e1 e3 e4 hn2
      refine retB_of_awp tab [600] Tryd.func68 rfl rfl rfl (Nat.le_of_ble_eq_true rfl) rfl ⟨Nat.le_refl _, trivial⟩ (fun w0 F0 A io0 => ?_)
      repeat' (first | refine wG ?_ | refine wD [] k ?_ | refine wD [] b3 ?_ | refine wD [] w ?_ | refine wR ?_ | refine wS ?_ ?_ <;> intro _ | refine wB ?_ ?_ | refine wF ?_)
      all_goals first | exact leVT | exact ⟨rfl, trivial⟩
theorem ref_primPow (t : List UInt8) (a : Nat) (pl : Int) (hl : t.length < 1000000) (ha : a ≤ t.length) (hw : word t (skp t a) = pwB) : RdR 68 priA t a pl (powP t (nxt t (skp t a))) := by
  have hmx := skp_max t a
  have hs : sgI t (skp t a) ≠ 40 := fun h => by
    have := (word_sg (t := t) (i := skp t a) (c := 40) (by decide) (by decide) (by decide)).2 h
    rw [hw] at this; revert this; decide
  have k := ref_take t a 0 pl _ 40 hl (by omega) (.inl ⟨rfl, rfl⟩)
  rw [if_neg hs, decide_eq_false hs] at k
  have ss := skp_skp t a
  have hdg : dgI t (skp t a) = -1 := by unfold dgI digP; rw [hw, if_neg (by decide)]
  have hlt := lt_of_word (t := t) (i := skp t a) (by rw [hw]; decide)
  have hwl := word_len (t := t) (i := skp t a) (by omega)
  rw [hw, show pwB.length = 5 from rfl] at hwl
  have hwe := wend_le t (skp t a)
  have ei : wend t (skp t a) = skp t a + 5 := by have := wend_gt hlt; omega
  have en : nxt t (skp t a) = skp t (skp t a + 5) := by unfold nxt; rw [ei]
  have wr := (wordR_pw t (skp t a)).2 hw
  generalize hi : skp t a = i at *
  have d := ref_digit t i pl hl (by omega)
  have w := ref_word t i pl hl (by omega)
  rw [ss, hdg] at d
  rw [ss, wr] at w
  have w : RetB Tryd.prog 41 [.ptr 600 0] (lookB (rW t i 0 pl)) (.d (.str [112, 111, 119, 101, 114])) (lookB (rW t i 0 pl)) := w
  rw [en]
  have hk := hi
  obtain ⟨b1, hb1⟩ : ∃ b, i + 5 = b := ⟨_, rfl⟩
  have lb1 : b1 ≤ t.length := by omega
  rw [hb1]
  unfold powP
  cases e1 : mustP t 40 (skp t b1) with
  | error x =>
    obtain ⟨q1, q2⟩ := mustP_er e1
    have c1 := ref_wantN t b1 pl 40 hl (by omega) (fun h => q2 ((word_sg (by decide) (by decide) (by decide)).2 h))
    subst q1
    have s1 := skp_skp t b1
    have mm := skp_max t b1
    generalize skp t b1 = i1 at *
    have c2 := ref_nameE t i1 3 i1 hl (by omega) (by decide)
    rw [s1] at c2
    have c3 := ref_wantE t i1 3 i1 44 hl (by omega) (by decide) (by decide)
    rw [s1] at c3
    have c4 := ref_expE t i1 2 8 3 i1 hl (by omega) (by decide)
    rw [s1] at c4
    have c5 := ref_wantE t (i1 + 1) 3 i1 41 hl (by omega) (by decide) (by decide)
    have mm5 := skp_max t (i1 + 1)
    have ss5 := skp_skp t (i1 + 1)
    generalize skp t (i1 + 1) = i5 at *
    refine ⟨[((2 : Int), [], (-1 : Int))], i5, by omega, by simp, ?_⟩
    show RetB _ _ _ _ _ (lookB (rW t i5 3 i1))
    clear hw hs hk hi wr ss en hdg q2
    rw [← hb1] at c1
    refine retB_of_awp tab [600] Tryd.func68 rfl rfl rfl (Nat.le_of_ble_eq_true rfl) rfl ⟨Nat.le_refl _, trivial⟩ (fun w0 F0 A io0 => ?_)
    repeat' (first | refine wG ?_ | refine wD [] k ?_ | refine wD [] d ?_ | refine wD [] w ?_ | refine wD [] c1 ?_ | refine wD [] c2 ?_ | refine wD [] c3 ?_ | refine wD [] c4 ?_ | refine wD [] c5 ?_ | refine wR ?_ | refine wS ?_ ?_ <;> intro _ | refine wB ?_ ?_ | refine wF ?_)
    all_goals first | exact leVT | exact ⟨rdEq (by omega), trivial⟩ | exact ⟨rfl, trivial⟩
  | ok j1 =>
    obtain ⟨q1, q2, q3, q4⟩ := mustP_ok e1
    have sg1 : sgI t (skp t b1) = 40 := (word_sg (by decide) (by decide) (by decide)).1 q4
    have c1 := ref_wantY t b1 pl 40 hl (by omega) sg1
    have n1 := sg_nxt (by decide) (by decide) q4
    have l1 := sgI_lt sg1 (by decide)
    simp only
    rw [q3, n1]
    obtain ⟨b2, hb2⟩ : ∃ b, skp t b1 + 1 = b := ⟨_, rfl⟩
    rw [hb2] at c1 ⊢
    have lb2 : b2 ≤ t.length := by omega
    cases e2 : nameP t (skp t b2) with
    | error x =>
      obtain ⟨q1, q2⟩ := nameP_er e2
      have c2 := ref_nameN t b2 pl hl (by omega) q2
      subst q1
      have s2 := skp_skp t b2
      have mm := skp_max t b2
      generalize skp t b2 = i2 at *
      have c3 := ref_wantE t i2 3 i2 44 hl (by omega) (by decide) (by decide)
      rw [s2] at c3
      have c4 := ref_expE t i2 2 8 3 i2 hl (by omega) (by decide)
      rw [s2] at c4
      have c5 := ref_wantE t (i2 + 1) 3 i2 41 hl (by omega) (by decide) (by decide)
      have mm5 := skp_max t (i2 + 1)
      have ss5 := skp_skp t (i2 + 1)
      generalize skp t (i2 + 1) = i5 at *
      refine ⟨[((2 : Int), [], (-1 : Int))], i5, by omega, by simp, ?_⟩
      show RetB _ _ _ _ _ (lookB (rW t i5 3 i2))
      clear hw hs hk hi wr ss en hdg q2
      rw [← hb1] at c1
      refine retB_of_awp tab [600] Tryd.func68 rfl rfl rfl (Nat.le_of_ble_eq_true rfl) rfl ⟨Nat.le_refl _, trivial⟩ (fun w0 F0 A io0 => ?_)
      repeat' (first | refine wG ?_ | refine wD [] k ?_ | refine wD [] d ?_ | refine wD [] w ?_ | refine wD [] c1 ?_ | refine wD [] c2 ?_ | refine wD [] c3 ?_ | refine wD [] c4 ?_ | refine wD [] c5 ?_ | refine wR ?_ | refine wS ?_ ?_ <;> intro _ | refine wB ?_ ?_ | refine wF ?_)
      all_goals first | exact leVT | exact ⟨rdEq (by omega), trivial⟩ | exact ⟨rfl, trivial⟩
    | ok p2 =>
      obtain ⟨s, j2⟩ := p2
      obtain ⟨q1, q2, q3, q4, q5⟩ := nameP_ok e2
      have c2 := ref_nameY t b2 pl hl (by omega) (by rw [← q4]; exact q5)
      rw [← q4] at c2
      have n2 : nxt t (skp t b2) = skp t (wend t (skp t b2)) := rfl
      have l2 := wend_le t (skp t b2)
      simp only
      rw [q3, n2]
      obtain ⟨b3, hb3⟩ : ∃ b, wend t (skp t b2) = b := ⟨_, rfl⟩
      rw [hb3] at c2 ⊢
      have lb3 : b3 ≤ t.length := by omega
      cases e3 : mustP t 44 (skp t b3) with
      | error x =>
        obtain ⟨q1, q2⟩ := mustP_er e3
        have c3 := ref_wantN t b3 pl 44 hl (by omega) (fun h => q2 ((word_sg (by decide) (by decide) (by decide)).2 h))
        subst q1
        have s3 := skp_skp t b3
        have mm := skp_max t b3
        generalize skp t b3 = i3 at *
        have c4 := ref_expE t i3 2 8 3 i3 hl (by omega) (by decide)
        rw [s3] at c4
        have c5 := ref_wantE t (i3 + 1) 3 i3 41 hl (by omega) (by decide) (by decide)
        have mm5 := skp_max t (i3 + 1)
        have ss5 := skp_skp t (i3 + 1)
        generalize skp t (i3 + 1) = i5 at *
        refine ⟨[((2 : Int), s, (-1 : Int))], i5, by omega, by simp, ?_⟩
        show RetB _ _ _ _ _ (lookB (rW t i5 3 i3))
        clear hw hs hk hi wr ss en hdg q2
        rw [← hb1] at c1
        refine retB_of_awp tab [600] Tryd.func68 rfl rfl rfl (Nat.le_of_ble_eq_true rfl) rfl ⟨Nat.le_refl _, trivial⟩ (fun w0 F0 A io0 => ?_)
        repeat' (first | refine wG ?_ | refine wD [] k ?_ | refine wD [] d ?_ | refine wD [] w ?_ | refine wD [] c1 ?_ | refine wD [] c2 ?_ | refine wD [] c3 ?_ | refine wD [] c4 ?_ | refine wD [] c5 ?_ | refine wR ?_ | refine wS ?_ ?_ <;> intro _ | refine wB ?_ ?_ | refine wF ?_)
        all_goals first | exact leVT | exact ⟨rdEq (by omega), trivial⟩ | exact ⟨rfl, trivial⟩
      | ok j3 =>
        obtain ⟨q1, q2, q3, q4⟩ := mustP_ok e3
        have sg3 : sgI t (skp t b3) = 44 := (word_sg (by decide) (by decide) (by decide)).1 q4
        have c3 := ref_wantY t b3 pl 44 hl (by omega) sg3
        have n3 := sg_nxt (by decide) (by decide) q4
        have l3 := sgI_lt sg3 (by decide)
        simp only
        rw [q3, n3]
        obtain ⟨b4, hb4⟩ : ∃ b, skp t b3 + 1 = b := ⟨_, rfl⟩
        rw [hb4] at c3 ⊢
        have lb4 : b4 ≤ t.length := by omega
        cases e4 : numP t 2 8 (skp t b4) with
        | error x =>
          have c4 := ref_expN t b4 2 8 pl hl (by omega) x e4
          obtain ⟨v, hv⟩ : ∃ v, dgI t (skp t b4) = v := ⟨_, rfl⟩
          rw [hv] at c4
          have q0 : x.2 ≠ 0 := by rcases numP_er e4 with h | h <;> rw [h] <;> simp
          have s4 := skp_skp t b4
          have mm := skp_max t b4
          generalize skp t b4 = i4 at *
          have c5 := ref_wantE t (i4 + 1) x.2 x.1 41 hl (by omega) q0 (by decide)
          have mm5 := skp_max t (i4 + 1)
          have ss5 := skp_skp t (i4 + 1)
          generalize skp t (i4 + 1) = i5 at *
          refine ⟨[((2 : Int), s, (v : Int))], i5, by omega, by simp, ?_⟩
          show RetB _ _ _ _ _ (lookB (rW t i5 x.2 x.1))
          clear hw hs hk hi wr ss en hdg
          rw [← hb1] at c1
          refine retB_of_awp tab [600] Tryd.func68 rfl rfl rfl (Nat.le_of_ble_eq_true rfl) rfl ⟨Nat.le_refl _, trivial⟩ (fun w0 F0 A io0 => ?_)
          repeat' (first | refine wG ?_ | refine wD [] k ?_ | refine wD [] d ?_ | refine wD [] w ?_ | refine wD [] c1 ?_ | refine wD [] c2 ?_ | refine wD [] c3 ?_ | refine wD [] c4 ?_ | refine wD [] c5 ?_ | refine wR ?_ | refine wS ?_ ?_ <;> intro _ | refine wB ?_ ?_ | refine wF ?_)
          all_goals first | exact leVT | exact ⟨rdEq (by omega), trivial⟩ | exact ⟨rfl, trivial⟩
        | ok p4 =>
          obtain ⟨n, j4⟩ := p4
          obtain ⟨q1, q2, q3, q4, q5, q6⟩ := numP_ok e4
          have c4 := ref_exp t b4 2 8 n j4 pl hl (by omega) e4
          have n4 := dig_nxt q6
          have l4 := (digP_lt q6).1
          simp only
          rw [q3, n4]
          obtain ⟨b5, hb5⟩ : ∃ b, skp t b4 + 1 = b := ⟨_, rfl⟩
          rw [hb5] at c4 ⊢
          have lb5 : b5 ≤ t.length := by omega
          cases e5 : mustP t 41 (skp t b5) with
          | error x =>
            obtain ⟨q1, q2⟩ := mustP_er e5
            have c5 := ref_wantN t b5 pl 41 hl (by omega) (fun h => q2 ((word_sg (by decide) (by decide) (by decide)).2 h))
            subst q1
            have s5 := skp_skp t b5
            have mm := skp_max t b5
            generalize skp t b5 = i5 at *
            refine ⟨[((2 : Int), s, (n : Int))], i5, by omega, by simp, ?_⟩
            show RetB _ _ _ _ _ (lookB (rW t i5 3 i5))
            clear hw hs hk hi wr ss en hdg q2
            rw [← hb1] at c1
            refine retB_of_awp tab [600] Tryd.func68 rfl rfl rfl (Nat.le_of_ble_eq_true rfl) rfl ⟨Nat.le_refl _, trivial⟩ (fun w0 F0 A io0 => ?_)
            repeat' (first | refine wG ?_ | refine wD [] k ?_ | refine wD [] d ?_ | refine wD [] w ?_ | refine wD [] c1 ?_ | refine wD [] c2 ?_ | refine wD [] c3 ?_ | refine wD [] c4 ?_ | refine wD [] c5 ?_ | refine wR ?_ | refine wS ?_ ?_ <;> intro _ | refine wB ?_ ?_ | refine wF ?_)
            all_goals first | exact leVT | exact ⟨rdEq (by omega), trivial⟩ | exact ⟨rfl, trivial⟩
          | ok j5 =>
            obtain ⟨q1, q2, q3, q4⟩ := mustP_ok e5
            have sg5 : sgI t (skp t b5) = 41 := (word_sg (by decide) (by decide) (by decide)).1 q4
            have c5 := ref_wantY t b5 pl 41 hl (by omega) sg5
            have n5 := sg_nxt (by decide) (by decide) q4
            have l5 := sgI_lt sg5 (by decide)
            simp only
            rw [q3, n5]
            obtain ⟨b6, hb6⟩ : ∃ b, skp t b5 + 1 = b := ⟨_, rfl⟩
            rw [hb6] at c5 ⊢
            have lb6 : b6 ≤ t.length := by omega
            refine ⟨b6, lb6, rfl, ?_⟩
            clear hw hs hk hi wr ss en hdg q1 q2 q3 q4
            rw [← hb1] at c1
            refine retB_of_awp tab [600] Tryd.func68 rfl rfl rfl (Nat.le_of_ble_eq_true rfl) rfl ⟨Nat.le_refl _, trivial⟩ (fun w0 F0 A io0 => ?_)
            repeat' (first | refine wG ?_ | refine wD [] k ?_ | refine wD [] d ?_ | refine wD [] w ?_ | refine wD [] c1 ?_ | refine wD [] c2 ?_ | refine wD [] c3 ?_ | refine wD [] c4 ?_ | refine wD [] c5 ?_ | refine wR ?_ | refine wS ?_ ?_ <;> intro _ | refine wB ?_ ?_ | refine wF ?_)
            all_goals first | exact leVT | exact ⟨rdEq (by omega), trivial⟩ | exact ⟨rfl, trivial⟩

theorem ref_primAtom (t : List UInt8) (a : Nat) (pl : Int) (hl : t.length < 1000000) (ha : a ≤ t.length) (hw : word t (skp t a) ≠ [40]) : RdR 68 priA t a pl (atomP t (skp t a)) := by
  unfold atomP
  have hmx := skp_max t a
  have ss := skp_skp t a
  have hs : sgI t (skp t a) ≠ 40 := fun h => hw ((word_sg (by decide) (by decide) (by decide)).2 h)
  have k := ref_take t a 0 pl _ 40 hl (by omega) (.inl ⟨rfl, rfl⟩)
  rw [if_neg hs, decide_eq_false hs] at k
  have d := ref_digit t (skp t a) pl hl (by omega)
  rw [ss] at d
  by_cases h0 : word t (skp t a) = [48]
  · rw [if_pos h0]
    have q := (word_d0 t (skp t a)).1 h0
    rw [dig_nxt q]
    have hlt := (digP_lt q).1
    unfold dgI at d
    rw [q] at d
    dsimp only at d
    refine ⟨skp t a + 1, by omega, rfl, ?_⟩
    generalize skp t a = i at *
    clear hw hs h0 q
    refine retB_of_awp tab [600] Tryd.func68 rfl rfl rfl (Nat.le_of_ble_eq_true rfl) rfl ⟨Nat.le_refl _, trivial⟩ (fun w0 F0 A io0 => ?_)
    repeat' (first | refine wG ?_ | refine wD [] k ?_ | refine wD [] d ?_ | refine wR ?_ | refine wS ?_ ?_ <;> intro _ | refine wB ?_ ?_ | refine wF ?_)
    all_goals first | exact leVT | exact ⟨rdEq (by omega), trivial⟩
  rw [if_neg h0]
  by_cases h1 : word t (skp t a) = [49]
  · rw [if_pos h1]
    have q := (word_d1 t (skp t a)).1 h1
    rw [dig_nxt q]
    have hlt := (digP_lt q).1
    unfold dgI at d
    rw [q] at d
    dsimp only at d
    refine ⟨skp t a + 1, by omega, rfl, ?_⟩
    generalize skp t a = i at *
    clear hw hs h0 h1 q
    refine retB_of_awp tab [600] Tryd.func68 rfl rfl rfl (Nat.le_of_ble_eq_true rfl) rfl ⟨Nat.le_refl _, trivial⟩ (fun w0 F0 A io0 => ?_)
    repeat' (first | refine wG ?_ | refine wD [] k ?_ | refine wD [] d ?_ | refine wR ?_ | refine wS ?_ ?_ <;> intro _ | refine wB ?_ ?_ | refine wF ?_)
    all_goals first | exact leVT | exact ⟨rdEq (by omega), trivial⟩
  rw [if_neg h1]
  by_cases h2 : word t (skp t a) = pwB
  · rw [if_pos h2]
    exact ref_primPow t a pl hl ha h2
  rw [if_neg h2]
  have w := ref_word t (skp t a) pl hl (by omega)
  rw [ss] at w
  have hv : ¬ wordR t (skp t a) = [112, 111, 119, 101, 114] := fun e => h2 ((wordR_pw t (skp t a)).1 e)
  have n0 : dgI t (skp t a) ≠ 0 ∧ dgI t (skp t a) ≠ 1 := by
    unfold dgI
    cases hd : digP t (skp t a) with
    | none => simp
    | some n =>
      refine ⟨fun e => h0 ((word_d0 _ _).2 ?_), fun e => h1 ((word_d1 _ _).2 ?_)⟩
      · rw [hd]; simp only at e; congr 1; omega
      · rw [hd]; simp only at e; congr 1; omega
  unfold varP
  have hle := wend_le t (skp t a)
  cases e : nameP t (skp t a) with
  | error x =>
    obtain ⟨q1, q2⟩ := nameP_er e
    have n := ref_nameN t (skp t a) pl hl (by omega) (by rw [ss]; exact q2)
    subst q1
    rw [ss] at n
    refine ⟨[g0], skp t a, by omega, by simp, ?_⟩
    show RetB _ _ _ _ _ (lookB (rW t (skp t a) 3 (skp t a)))
    generalize wordR t (skp t a) = v at *
    generalize dgI t (skp t a) = dd at *
    generalize skp t a = i at *
    clear hw hs h0 h1 h2 e q2
    refine retB_of_awp tab [600] Tryd.func68 rfl rfl rfl (Nat.le_of_ble_eq_true rfl) rfl ⟨Nat.le_refl _, trivial⟩ (fun w0 F0 A io0 => ?_)
    repeat' (first | refine wG ?_ | refine wD [] k ?_ | refine wD [] d ?_ | refine wD [] w ?_ | refine wD [] n ?_ | refine wR ?_ | refine wS ?_ ?_ <;> intro _ | refine wB ?_ ?_ | refine wF ?_)
    all_goals first | exact leVT | exact ⟨rfl, trivial⟩
  | ok p =>
    obtain ⟨s, j⟩ := p
    obtain ⟨q1, q2, q3, q4, q5⟩ := nameP_ok e
    have n := ref_nameY t (skp t a) pl hl (by omega) (by rw [ss, ← q4]; exact q5)
    rw [ss, ← q4] at n
    refine ⟨wend t (skp t a), by omega, q3.symm, ?_⟩
    generalize wordR t (skp t a) = v at *
    generalize dgI t (skp t a) = dd at *
    clear hw hs h0 h1 h2 e q1 q2 q3 q4 q5
    generalize wend t (skp t a) = b at *
    generalize skp t a = i at *
    refine retB_of_awp tab [600] Tryd.func68 rfl rfl rfl (Nat.le_of_ble_eq_true rfl) rfl ⟨Nat.le_refl _, trivial⟩ (fun w0 F0 A io0 => ?_)
    repeat' (first | refine wG ?_ | refine wD [] k ?_ | refine wD [] d ?_ | refine wD [] w ?_ | refine wD [] n ?_ | refine wR ?_ | refine wS ?_ ?_ <;> intro _ | refine wB ?_ ?_ | refine wF ?_)
    all_goals first | exact leVT | exact ⟨rfl, trivial⟩
theorem ref_primStep (t : List UInt8) (a : Nat) (pl : Int) (hl : t.length < 1000000) (ha : a ≤ t.length) (IH : ∀ b o, skp t a < skp t b → b ≤ t.length → Rs t (.lev 0) (skp t b) o → RdR 24 (binA 1) t b pl o) (o : Pos (List Nd)) (h : Rs t .pri (skp t a) o) : RdR 68 priA t a pl o := by
  have key : ∀ (o' : Pos (List Nd)), word t (skp t a) = [40] → Rs t (.lev 0) (nxt t (skp t a)) o' → RdR 24 (binA 1) t (skp t a + 1) pl o' ∧ Goes t (.lev 0) (nxt t (skp t a)) o' := fun o' hw h1 => by
    have hn := sg_nxt (by decide) (by decide) hw
    have hlt := lt_of_word (t := t) (i := skp t a) (by rw [hw]; simp)
    have hg := nxt_gt hlt
    rw [hn] at hg
    exact ⟨IH _ _ hg (by omega) (by rw [← hn]; exact h1), h1.goes (at_nxt t _)⟩
  cases h with
  | atom hw => exact ref_primAtom t a pl hl ha hw
  | brE hw h1 => exact ref_primBr t a pl hl ha hw _ (key _ hw h1).1 (key _ hw h1).2 _ rfl
  | brX hw h1 h2 => exact ref_primBr t a pl hl ha hw _ (key _ hw h1).1 (key _ hw h1).2 _ (.inl ⟨_, h2, rfl⟩)
  | brO hw h1 h2 => exact ref_primBr t a pl hl ha hw _ (key _ hw h1).1 (key _ hw h1).2 _ (.inr ⟨_, h2, rfl⟩)
end Go.Proofs.YtfnonogemgnlhaaDoor

/-
  The reference's reader: expressions by their rules. Conditions: the text is not too long.
-/
set_option maxHeartbeats 8000000
namespace Go.Proofs.YtfnonogemgnlhaaDoor
open Go.Vw
attribute [local irreducible] awp awpL awpR

inductive RaiL (t : List UInt8) (pl : Int) : List Nd → Nat → Int → Int → List Nd → Nat → Prop where
  | stop {e a} (h : word t (skp t a) ≠ [94]) : RaiL t pl e a 0 pl e (skp t a)
  | err {e a x} (h : word t (skp t a) = [94]) (h1 : numP t 1 6 (skp t (skp t a + 1)) = .error x) : RaiL t pl e a x.2 x.1 (((10 : Int), [], dgI t (skp t (skp t a + 1))) :: e) (skp t (skp t (skp t a + 1) + 1))
  | step {e a n j q1 q2 M A} (h : word t (skp t a) = [94]) (h1 : numP t 1 6 (skp t (skp t a + 1)) = .ok (n, j)) (h2 : RaiL t pl (((10 : Int), [], (n : Int)) :: e) (skp t (skp t a + 1) + 1) q1 q2 M A) : RaiL t pl e a q1 q2 M A
def RaiG (t : List UInt8) (pl : Int) (e : List Nd) (a i : Nat) : Pos (List Nd) → Prop
  | .ok (E, j) => ∃ A, A ≤ t.length ∧ skp t A = j ∧ RaiL t pl e a 0 pl E A
  | .error x => ∃ M A, A ≤ t.length + 1 ∧ M.length ≤ e.length + (t.length - i) + 1 ∧ x.2 ≠ 0 ∧ RaiL t pl e a x.2 x.1 M A
theorem RaiL.of {t : List UInt8} (pl : Int) {k : Kd} {i : Nat} {o : Pos (List Nd)} (h : Rs t k i o) : ∀ e a, k = .rai e → skp t a = i → a ≤ t.length → RaiG t pl e a i o := by
  induction h with
  | @rai0 e i h =>
    intro e' a hk hi ha
    cases hk
    subst hi
    have := skp_max t a
    exact ⟨skp t a, by omega, skp_skp t a, .stop h⟩
  | @raiX e i x h h1 =>
    intro e' a hk hi ha
    cases hk
    subst hi
    have hn := sg_nxt (by decide) (by decide) h
    have hlt := lt_of_word (t := t) (i := skp t a) (by rw [h]; simp)
    rw [hn] at h1
    have m1 := skp_max t (skp t a + 1)
    have m2 := skp_max t (skp t (skp t a + 1) + 1)
    exact ⟨_, _, by omega, by simp only [List.length_cons]; omega, (by rcases numP_er h1 with q | q <;> rw [q] <;> simp), .err h h1⟩
  | @raiN e i n j o h h1 h2 ih =>
    intro e' a hk hi ha
    cases hk
    subst hi
    have hn := sg_nxt (by decide) (by decide) h
    have hlt := lt_of_word (t := t) (i := skp t a) (by rw [h]; simp)
    rw [hn] at h1
    obtain ⟨q1, q2, q3, q4, q5, q6⟩ := numP_ok h1
    have hd := dig_nxt q6
    have l1 := (digP_lt q6).1
    have g1 := skp_ge t (skp t a + 1)
    have := ih ((10, [], (n : Int)) :: e) (skp t (skp t a + 1) + 1) rfl (by rw [q3, hd]) (by omega)
    cases o with
    | ok p =>
      obtain ⟨E, j2⟩ := p
      obtain ⟨A, r1, r2, r3⟩ := this
      exact ⟨A, r1, r2, .step h h1 r3⟩
    | error x =>
      obtain ⟨M, A, r1, r2, r3, r4⟩ := this
      exact ⟨M, A, r1, by simp only [List.length_cons] at r2; omega, r3, .step h h1 r4⟩
  | levE _ _ _ => intro e a hk; cases hk
  | levO _ _ _ _ _ => intro e a hk; cases hk
  | raiE _ _ => intro e a hk; cases hk
  | raiO _ _ _ _ => intro e a hk; cases hk
  | bin0 _ => intro e a hk; cases hk
  | binE _ _ _ => intro e a hk; cases hk
  | binO _ _ _ _ _ => intro e a hk; cases hk
  | atom _ => intro e a hk; cases hk
  | brE _ _ _ => intro e a hk; cases hk
  | brX _ _ _ _ => intro e a hk; cases hk
  | brO _ _ _ _ => intro e a hk; cases hk
abbrev RS : Type := List Nd × Nat × Int × Int
theorem raised_walk (t : List UInt8) (a0 : Nat) (pl : Int) (hl : t.length < 1000000) (e0 : List Nd) (b0 : Nat) (er0 p0 : Int) (hp : RetB Tryd.prog 68 priA (lookB (rW t a0 0 pl)) (.d (ndsD e0)) (lookB (rW t b0 er0 p0))) (q1 q2 : Int) (M : List Nd) (Z : Nat) (hA : Z ≤ t.length + 1) (hb0 : b0 ≤ t.length + 1) (he0 : e0.length ≤ 2000000) (hM : M.length ≤ 3000000) (h : (er0 = 0 ∧ p0 = pl ∧ b0 ≤ t.length ∧ RaiL t pl e0 b0 q1 q2 M Z) ∨ (er0 ≠ 0 ∧ er0 = q1 ∧ p0 = q2 ∧ e0 = M ∧ Z = skp t b0)) : RetB Tryd.prog 43 priA (lookB (rW t a0 0 pl)) (.d (ndsD M)) (lookB (rW t Z q1 q2)) := by
  refine retB_of_awp tab [600] Tryd.func43 rfl rfl rfl (Nat.le_of_ble_eq_true rfl) rfl ⟨Nat.le_refl _, trivial⟩ (fun w0 F0 A io0 => ?_)
  repeat' (first | refine wG ?_ | refine wD [] hp ?_ | refine wR ?_ | refine wS ?_ ?_ <;> intro _ | refine wB ?_ ?_ | refine wF ?_)
  refine awp_loop1 (fun (s : RS) => ([(0, .ptr 600 0), (3, .d (ndsD s.1))], rW t s.2.1 s.2.2.1 s.2.2.2)) (fun s => s.1.length ≤ 3000000 ∧ ((s.2.2.1 = 0 ∧ s.2.2.2 = pl ∧ s.2.1 ≤ t.length ∧ s.1.length ≤ e0.length + s.2.1 ∧ RaiL t pl s.1 s.2.1 q1 q2 M Z) ∨ (s.2.2.1 ≠ 0 ∧ s.2.2.1 = q1 ∧ s.2.2.2 = q2 ∧ s.1 = M ∧ s.2.1 ≤ t.length + 1 ∧ skp t s.2.1 = Z))) (fun s => if s.2.2.1 = 0 then t.length - s.2.1 + 1 else 0) (e0, b0, er0, p0) ⟨by simp only; omega, by rcases h with h | h; exact .inl ⟨h.1, h.2.1, h.2.2.1, by simp only; omega, h.2.2.2⟩; exact .inr ⟨h.1, h.2.1, h.2.2.1, h.2.2.2.1, hb0, h.2.2.2.2.symm⟩⟩ ⟨rfl, rfl, rfl⟩ ⟨rfl, trivial⟩ (fun s hs => ?_)
  obtain ⟨e, a, er, p2⟩ := s
  simp only at hs ⊢
  obtain ⟨hle, hs⟩ := hs
  clear h hp
  rcases hs with ⟨h1, h2, h3, h3b, h4⟩ | ⟨h1, h2, h3, h4, h5, h6⟩
  · have h2 := h2.symm
    subst h1 h2
    have hmx := skp_max t a
    have k := ref_take t a 0 pl _ 94 hl (by omega) (.inl ⟨rfl, rfl⟩)
    cases h4 with
    | stop hw =>
      have hs : sgI t (skp t a) ≠ 94 := fun h => hw ((word_sg (by decide) (by decide) (by decide)).2 h)
      rw [if_neg hs, decide_eq_false hs] at k
      generalize skp t a = i at *
      clear hw hs
      repeat' (first | refine wG ?_ | refine wD [] k ?_ | refine wR ?_ | refine wS ?_ ?_ <;> intro _ | refine wB ?_ ?_ | refine wF ?_)
      all_goals first | exact leVT | exact ⟨rfl, trivial⟩
    | @err _ _ x hw hn =>
      have hs : sgI t (skp t a) = 94 := (word_sg (by decide) (by decide) (by decide)).1 hw
      have hlt := sgI_lt hs (by decide)
      rw [if_pos hs, decide_eq_true hs] at k
      have c := ref_expN t (skp t a + 1) 1 6 pl hl (by omega) x hn
      have hx : x.2 ≠ 0 := by rcases numP_er hn with q | q <;> rw [q] <;> simp
      generalize dgI t (skp t (skp t a + 1)) = v at *
      have op := ref_operation 10 v [] [e] (by simp; omega) (by simp)
      rw [show ([e] : List (List Nd)).flatten = e by simp] at op
      have m2 := skp_max t (skp t a + 1)
      generalize skp t a = i at *
      generalize skp t (i + 1) = i2 at *
      clear hw hs hn
      repeat' (first | refine wG ?_ | refine wD [] k ?_ | refine wD [] c ?_ | refine wC op ?_ | refine wR ?_ | refine wS ?_ ?_ <;> intro _ | refine wB ?_ ?_ | refine wF ?_)
      exact ⟨((10, [], v) :: e, i2 + 1, x.2, x.1), ⟨by simp only; omega, .inr ⟨hx, rfl, rfl, rfl, by simp only; omega, rfl⟩⟩, by simp only [if_neg hx, if_true]; omega, ⟨rfl, rfl, rfl⟩, rfl, trivial⟩
    | @step _ _ n j _ _ _ _ hw hn h5 =>
      have hs : sgI t (skp t a) = 94 := (word_sg (by decide) (by decide) (by decide)).1 hw
      have hlt := sgI_lt hs (by decide)
      have hge := skp_ge t a
      rw [if_pos hs, decide_eq_true hs] at k
      have c := ref_exp t (skp t a + 1) 1 6 n j pl hl (by omega) hn
      have op := ref_operation 10 n [] [e] (by simp; omega) (by simp)
      rw [show ([e] : List (List Nd)).flatten = e by simp] at op
      have m2 := skp_ge t (skp t a + 1)
      have l2 := (digP_lt (numP_ok hn).2.2.2.2.2).1
      generalize skp t a = i at *
      generalize skp t (i + 1) = i2 at *
      clear hw hs hn
      repeat' (first | refine wG ?_ | refine wD [] k ?_ | refine wD [] c ?_ | refine wC op ?_ | refine wR ?_ | refine wS ?_ ?_ <;> intro _ | refine wB ?_ ?_ | refine wF ?_)
      exact ⟨((10, [], (n : Int)) :: e, i2 + 1, 0, pl), ⟨by simp only [List.length_cons]; omega, .inl ⟨rfl, rfl, by simp only; omega, by simp only [List.length_cons]; omega, h5⟩⟩, by simp only [if_true]; omega, ⟨rfl, rfl, rfl⟩, rfl, trivial⟩
  · subst h4 h6
    have k := ref_take t a er p2 0 94 hl (by omega) (.inr ⟨h1, rfl⟩)
    rw [if_neg (by decide), decide_eq_false (by decide)] at k
    subst h2 h3
    generalize skp t a = i at *
    repeat' (first | refine wG ?_ | refine wD [] k ?_ | refine wR ?_ | refine wS ?_ ?_ <;> intro _ | refine wB ?_ ?_ | refine wF ?_)
    all_goals first | exact leVT | exact ⟨rfl, trivial⟩
theorem ref_raisedStep (t : List UInt8) (a : Nat) (pl : Int) (hl : t.length < 1000000) (ha : a ≤ t.length) (IH : ∀ o, Rs t .pri (skp t a) o → RdR 68 priA t a pl o) (o : Pos (List Nd)) (h : Rs t (.lev 3) (skp t a) o) : RdR 43 priA t a pl o := by
  have hmx := skp_max t a
  have hat : At t (skp t a) := ⟨by omega, skp_skp t a⟩
  cases h with
  | levE h => omega
  | levO h => omega
  | @raiE _ x h1 =>
    obtain ⟨M, a', b1, b2, b3⟩ := IH _ h1
    have hx : x.2 ≠ 0 := by have : ErrIn t (skp t a) x := h1.goes hat; have := this.2.2.2; omega
    have hm := skp_max t a'
    exact ⟨M, skp t a', by omega, b2, raised_walk t a pl hl M a' x.2 x.1 b3 _ _ M (skp t a') (by omega) b1 (by omega) (by omega) (.inr ⟨hx, rfl, rfl, rfl, rfl⟩)⟩
  | @raiO _ e j _ h1 h2 =>
    obtain ⟨a', b1, b2, b3⟩ := IH _ h1
    have g : Goes t .pri (skp t a) (.ok (e, j)) := h1.goes hat
    have g1 := g.1.le
    have g3 := g.2.2.1
    have g2 := g.2.1
    simp only [Kd.pre] at g3
    have r := RaiL.of pl h2 e a' rfl b2 b1
    cases o with
    | ok p =>
      obtain ⟨E, j2⟩ := p
      obtain ⟨Z, r1, r2, r3⟩ := r
      have g' : Goes t (.lev 3) (skp t a) (.ok (E, j2)) := (Rs.raiO h1 h2).goes hat
      have g4 := g'.2.2.1
      have g5 := g'.1.le
      simp only [Kd.pre] at g4
      exact ⟨Z, r1, r2, raised_walk t a pl hl e a' 0 pl b3 0 pl E Z (by omega) (by omega) (by omega) (by omega) (.inl ⟨rfl, rfl, b1, r3⟩)⟩
    | error x =>
      obtain ⟨M, Z, r1, r2, r3, r4⟩ := r
      exact ⟨M, Z, r1, by omega, raised_walk t a pl hl e a' 0 pl b3 _ _ M Z r1 (by omega) (by omega) (by omega) (.inl ⟨rfl, rfl, b1, r4⟩)⟩
end Go.Proofs.YtfnonogemgnlhaaDoor

/-
  The reference's reader: operations with two operands, whole expressions. Conditions: the text is not too long.
-/
set_option maxHeartbeats 8000000
namespace Go.Proofs.YtfnonogemgnlhaaDoor
open Go.Vw
attribute [local irreducible] awp awpL awpR

theorem opOf_nxt {t : List UInt8} {r i : Nat} {op : Int} (h : opOf r (word t i) = some op) : nxt t i = skp t (i + 1) := by
  unfold opOf at h
  repeat' split at h
  all_goals first | (rename_i hw; exact sg_nxt (by decide) (by decide) hw) | cases h
inductive BinL (t : List UInt8) (r : Nat) (pl : Int) : List Nd → Nat → Int → Int → List Nd → Nat → Prop where
  | stop {e : List Nd} {i : Nat} (h : opOf r (word t i) = none) : BinL t r pl e i 0 pl e i
  | err {e : List Nd} {i : Nat} {op : Int} {M : List Nd} {a' : Nat} {x : PErr} (h : opOf r (word t i) = some op) (hx : x.2 ≠ 0) (ha : a' ≤ t.length + 1) (hM : M.length ≤ 1000002) (h1 : RetB Tryd.prog 24 (binA (r + 1 + 1)) (lookB (rW t (i + 1) 0 pl)) (.d (ndsD M)) (lookB (rW t a' x.2 x.1))) : BinL t r pl e i x.2 x.1 ((op, [], (0 : Int)) :: (e ++ M)) (skp t a')
  | step {e : List Nd} {i : Nat} {op : Int} {e2 : List Nd} {a' : Nat} {q1 q2 : Int} {M : List Nd} {Z : Nat} (h : opOf r (word t i) = some op) (ha : a' ≤ t.length) (he : e2.length + i + 1 ≤ skp t a') (h1 : RetB Tryd.prog 24 (binA (r + 1 + 1)) (lookB (rW t (i + 1) 0 pl)) (.d (ndsD e2)) (lookB (rW t a' 0 pl))) (h2 : BinL t r pl ((op, [], (0 : Int)) :: (e ++ e2)) (skp t a') q1 q2 M Z) : BinL t r pl e i q1 q2 M Z
def BinG (t : List UInt8) (r : Nat) (pl : Int) (e : List Nd) (i : Nat) : Pos (List Nd) → Prop
  | .ok (E, j) => BinL t r pl e i 0 pl E j
  | .error x => ∃ M Z, Z ≤ t.length + 1 ∧ M.length ≤ e.length + (t.length - i) + 2 ∧ x.2 ≠ 0 ∧ BinL t r pl e i x.2 x.1 M Z
theorem BinL.of {t : List UInt8} (hl : t.length < 1000000) (r0 : Nat) (pl : Int) (i0 : Nat) (IH : ∀ b o, i0 < b → b ≤ t.length → Rs t (.lev (r0 + 1)) (skp t b) o → RdR 24 (binA (r0 + 1 + 1)) t b pl o) {k : Kd} {i : Nat} {o : Pos (List Nd)} (h : Rs t k i o) : ∀ e, k = .bin r0 e → At t i → i0 ≤ i → BinG t r0 pl e i o := by
  induction h with
  | @bin0 r e i h =>
    intro e' hk hi h0
    cases hk
    exact .stop h
  | @binE r e i op x h h1 _ =>
    intro e' hk hi h0
    cases hk
    have hlt := opOf_lt h
    have hn := opOf_nxt h
    have hx : x.2 ≠ 0 := by have g : ErrIn t (nxt t i) x := h1.goes (at_nxt t i); have := g.2.2.2; omega
    rw [hn] at h1
    obtain ⟨M, a', b1, b2, b3⟩ := IH (i + 1) _ (by omega) (by omega) h1
    have hm := skp_max t a'
    have hge := skp_ge t (i + 1)
    exact ⟨_, _, by omega, by simp only [List.length_cons, List.length_append]; omega, hx, .err h hx b1 (by omega) b3⟩
  | @binO r e i op e2 j o h h1 h2 _ ih =>
    intro e' hk hi h0
    cases hk
    have hlt := opOf_lt h
    have hn := opOf_nxt h
    have g : Goes t (.lev (r0 + 1)) (nxt t i) (.ok (e2, j)) := h1.goes (at_nxt t i)
    have g1 := g.1
    have g2 := g.2.1
    have g3 := g.2.2.1
    simp only [Kd.pre] at g3
    rw [hn] at h1 g2 g3
    obtain ⟨a', b1, b2, b3⟩ := IH (i + 1) _ (by omega) (by omega) h1
    have hge := skp_ge t (i + 1)
    have gj := g1.le
    have q := ih _ rfl g1 (by omega)
    subst b2
    cases o with
    | ok p =>
      obtain ⟨E, j2⟩ := p
      exact .step h b1 (by omega) b3 q
    | error x =>
      obtain ⟨M, Z, r1, r2, r3, r4⟩ := q
      simp only [List.length_cons, List.length_append] at r2
      exact ⟨M, Z, r1, by omega, r3, .step h b1 (by omega) b3 r4⟩
  | levE _ _ _ => intro e hk; cases hk
  | levO _ _ _ _ _ => intro e hk; cases hk
  | raiE _ _ => intro e hk; cases hk
  | raiO _ _ _ _ => intro e hk; cases hk
  | rai0 _ => intro e hk; cases hk
  | raiX _ _ => intro e hk; cases hk
  | raiN _ _ _ _ => intro e hk; cases hk
  | atom _ => intro e hk; cases hk
  | brE _ _ _ => intro e hk; cases hk
  | brX _ _ _ _ => intro e hk; cases hk
  | brO _ _ _ _ => intro e hk; cases hk
abbrev BS : Type := List Nd × Nat × Int × Int × Int
theorem binary_walk (t : List UInt8) (a0 : Nat) (pl : Int) (hl : t.length < 1000000) (r : Nat) (hr : r < 3) (e0 : List Nd) (b0 : Nat) (er0 p0 : Int) (hp : RetB Tryd.prog 24 (binA (r + 1 + 1)) (lookB (rW t a0 0 pl)) (.d (ndsD e0)) (lookB (rW t b0 er0 p0))) (q1 q2 : Int) (M : List Nd) (Z : Nat) (hA : Z ≤ t.length + 1) (hb0 : b0 ≤ t.length + 1) (he0 : e0.length ≤ 2000000) (hM : M.length ≤ 3000000) (h : (er0 = 0 ∧ p0 = pl ∧ b0 ≤ t.length ∧ BinL t r pl e0 (skp t b0) q1 q2 M Z) ∨ (er0 ≠ 0 ∧ er0 = q1 ∧ p0 = q2 ∧ e0 = M ∧ Z = skp t b0)) : RetB Tryd.prog 24 (binA (r + 1)) (lookB (rW t a0 0 pl)) (.d (ndsD M)) (lookB (rW t Z q1 q2)) := by
  have hmx := skp_max t b0
  have ss := skp_skp t b0
  obtain ⟨v, hv⟩ : ∃ v, (er0 = 0 ∧ v = sgI t (skp t b0)) ∨ (er0 ≠ 0 ∧ v = 0) := by
    by_cases q : er0 = 0
    · exact ⟨_, .inl ⟨q, rfl⟩⟩
    · exact ⟨0, .inr ⟨q, rfl⟩⟩
  have sg := ref_sign t b0 er0 p0 v hl (by omega) hv
  have lv := ref_level v (r + 1)
  have hz : (er0 = 0 → lvI (r + 1) v = (opOf r (word t (skp t b0))).getD 0) ∧ (er0 ≠ 0 → lvI (r + 1) v = 0) := by
    rcases hv with q | q
    · exact ⟨fun _ => by rw [q.2]; exact lvI_op hr, fun w => absurd q.1 w⟩
    · exact ⟨fun w => absurd w q.1, fun _ => by rw [q.2]; unfold lvI; simp⟩
  generalize lvI (r + 1) v = z at *
  generalize skp t b0 = i0 at *
  refine retB_of_awp tab [600] Tryd.func24 rfl rfl rfl (Nat.le_of_ble_eq_true rfl) rfl ⟨Nat.le_refl _, trivial⟩ (fun w0 F0 A io0 => ?_)
  repeat' (first | refine wG ?_ | refine wD [] hp ?_ | refine wD [] sg ?_ | refine wC lv ?_ | refine wR ?_ | refine wS ?_ ?_ <;> intro _ | refine wB ?_ ?_ | refine wF ?_)
  refine awp_loop1 (fun (s : BS) => ([(0, .ptr 600 0), (1, .d (.int .i64 (r + 1))), (5, .d (ndsD s.1)), (6, .d (.int .i64 s.2.2.2.2))], rW t s.2.1 s.2.2.1 s.2.2.2.1)) (fun s => s.1.length ≤ 3000000 ∧ s.2.1 ≤ t.length + 1 ∧ ((s.2.2.1 = 0 ∧ s.2.2.2.1 = pl ∧ s.2.1 ≤ t.length ∧ s.2.2.2.2 = (opOf r (word t s.2.1)).getD 0 ∧ s.1.length ≤ e0.length + s.2.1 ∧ BinL t r pl s.1 s.2.1 q1 q2 M Z) ∨ (s.2.2.1 ≠ 0 ∧ s.2.2.2.2 = 0 ∧ s.2.2.1 = q1 ∧ s.2.2.2.1 = q2 ∧ s.1 = M ∧ s.2.1 = Z))) (fun s => if s.2.2.1 = 0 then t.length - s.2.1 + 1 else 0) (e0, i0, er0, p0, z) ⟨by simp only; omega, by simp only; omega, by rcases h with h | h; exact .inl ⟨h.1, h.2.1, by simp only; omega, hz.1 h.1, by simp only; omega, h.2.2.2⟩; exact .inr ⟨h.1, hz.2 h.1, h.2.1, h.2.2.1, h.2.2.2.1, h.2.2.2.2.symm⟩⟩ ⟨rfl, rfl, rfl, rfl, rfl⟩ ⟨rfl, trivial⟩ (fun s hs => ?_)
  obtain ⟨e, i, er, p2, op⟩ := s
  simp only at hs ⊢
  obtain ⟨hle, hi1, hs⟩ := hs
  clear h hp sg lv hz hv hmx ss
  rcases hs with ⟨h1, h2, h3, h3b, h3c, h4⟩ | ⟨h1, h2, h3, h4, h5, h6⟩
  · have h2 := h2.symm
    subst h1 h2
    cases h4 with
    | stop hw =>
      rw [hw] at h3b
      have h3b : op = 0 := h3b
      subst h3b
      repeat' (first | refine wG ?_ | refine wR ?_ | refine wS ?_ ?_ <;> intro _ | refine wB ?_ ?_ | refine wF ?_)
      all_goals first | exact leVT | exact ⟨rfl, trivial⟩
    | @err _ _ op' M' a' x hw hx ha hM' c =>
      rw [hw] at h3b
      have h3b : op = op' := h3b
      subst h3b
      have ho := opOf_op hw
      have hlt := opOf_lt hw
      have hm := skp_max t a'
      have sg := ref_sign t a' x.2 x.1 0 hl (by omega) (.inr ⟨hx, rfl⟩)
      have lv := ref_level 0 (r + 1)
      have l0 : lvI (r + 1) 0 = 0 := by unfold lvI; simp
      rw [l0] at lv
      have fl : ([e, M'] : List (List Nd)).flatten = e ++ M' := by simp
      have cc := ref_operation op 0 [] [e, M'] (by rw [fl]; simp; omega) (by simp)
      rw [fl] at cc
      have hle2 : ((op, [], (0 : Int)) :: (e ++ M')).length ≤ 3000000 := hM
      generalize (op, [], (0 : Int)) :: (e ++ M') = E at *
      generalize skp t a' = i2 at *
      clear hw fl l0
      repeat' (first | refine wG ?_ | refine wD [] c ?_ | refine wD [] sg ?_ | refine wC lv ?_ | refine wC cc ?_ | refine wR ?_ | refine wS ?_ ?_ <;> intro _ | refine wB ?_ ?_ | refine wF ?_)
      exact ⟨(E, i2, x.2, x.1, 0), ⟨hle2, by simp only; omega, .inr ⟨hx, rfl, rfl, rfl, rfl, rfl⟩⟩, by simp only [if_neg hx, if_true]; omega, ⟨rfl, rfl, rfl, rfl, rfl⟩, rfl, trivial⟩
    | @step _ _ op' e2 a' _ _ _ _ hw ha he c h5 =>
      rw [hw] at h3b
      have h3b : op = op' := h3b
      subst h3b
      have ho := opOf_op hw
      have hlt := opOf_lt hw
      have hm := skp_max t a'
      have sg := ref_sign t a' 0 pl _ hl (by omega) (.inl ⟨rfl, rfl⟩)
      have lv := ref_level (sgI t (skp t a')) (r + 1)
      have l0 : lvI (r + 1) (sgI t (skp t a')) = _ := lvI_op hr
      have fl : ([e, e2] : List (List Nd)).flatten = e ++ e2 := by simp
      have cc := ref_operation op 0 [] [e, e2] (by rw [fl]; simp; omega) (by simp)
      rw [fl] at cc
      have hle2 : ((op, [], (0 : Int)) :: (e ++ e2)).length ≤ e0.length + skp t a' := by simp only [List.length_cons, List.length_append]; omega
      generalize (op, [], (0 : Int)) :: (e ++ e2) = E at *
      generalize skp t a' = i2 at *
      generalize sgI t i2 = v2 at *
      generalize lvI (r + 1) v2 = z2 at *
      clear hw fl
      repeat' (first | refine wG ?_ | refine wD [] c ?_ | refine wD [] sg ?_ | refine wC lv ?_ | refine wC cc ?_ | refine wR ?_ | refine wS ?_ ?_ <;> intro _ | refine wB ?_ ?_ | refine wF ?_)
      exact ⟨(E, i2, 0, pl, z2), ⟨by simp only; omega, by simp only; omega, .inl ⟨rfl, rfl, by simp only; omega, l0, hle2, h5⟩⟩, by simp only [if_true]; omega, ⟨rfl, rfl, rfl, rfl, rfl⟩, rfl, trivial⟩
  · subst h2 h5 h6 h3 h4
    repeat' (first | refine wG ?_ | refine wR ?_ | refine wS ?_ ?_ <;> intro _ | refine wB ?_ ?_ | refine wF ?_)
    all_goals first | exact leVT | exact ⟨rfl, trivial⟩
theorem ref_binaryStep (t : List UInt8) (a : Nat) (pl : Int) (hl : t.length < 1000000) (ha : a ≤ t.length) (r : Nat) (hr : r < 3) (IH : ∀ b o, a ≤ b → b ≤ t.length → Rs t (.lev (r + 1)) (skp t b) o → RdR 24 (binA (r + 1 + 1)) t b pl o) (o : Pos (List Nd)) (h : Rs t (.lev r) (skp t a) o) : RdR 24 (binA (r + 1)) t a pl o := by
  have hmx := skp_max t a
  have hge := skp_ge t a
  have hat : At t (skp t a) := ⟨by omega, skp_skp t a⟩
  cases h with
  | raiE h => omega
  | raiO h => omega
  | @levE _ _ x _ h1 =>
    obtain ⟨M, a', b1, b2, b3⟩ := IH a _ (Nat.le_refl _) ha h1
    have hx : x.2 ≠ 0 := by have : ErrIn t (skp t a) x := h1.goes hat; have := this.2.2.2; omega
    have hm := skp_max t a'
    exact ⟨M, skp t a', by omega, b2, binary_walk t a pl hl r hr M a' x.2 x.1 b3 _ _ M (skp t a') (by omega) b1 (by omega) (by omega) (.inr ⟨hx, rfl, rfl, rfl, rfl⟩)⟩
  | @levO _ _ e j _ _ h1 h2 =>
    obtain ⟨a', b1, b2, b3⟩ := IH a _ (Nat.le_refl _) ha h1
    have g : Goes t (.lev (r + 1)) (skp t a) (.ok (e, j)) := h1.goes hat
    have g1 := g.1.le
    have g3 := g.2.2.1
    have g2 := g.2.1
    simp only [Kd.pre] at g3
    have q := BinL.of hl r pl (skp t a) (fun b o hb hb2 h => IH b o (by omega) hb2 h) h2 e rfl g.1 g2
    subst b2
    cases o with
    | ok p =>
      obtain ⟨E, j2⟩ := p
      have g' : Goes t (.lev r) (skp t a) (.ok (E, j2)) := (Rs.levO hr h1 h2).goes hat
      have g4 := g'.2.2.1
      have g5 := g'.1.le
      simp only [Kd.pre] at g4
      exact ⟨j2, g5, g'.1.skp, binary_walk t a pl hl r hr e a' 0 pl b3 0 pl E j2 (by omega) (by omega) (by omega) (by omega) (.inl ⟨rfl, rfl, b1, q⟩)⟩
    | error x =>
      obtain ⟨M, Z, r1, r2, r3, r4⟩ := q
      exact ⟨M, Z, r1, by omega, binary_walk t a pl hl r hr e a' 0 pl b3 _ _ M Z r1 (by omega) (by omega) (by omega) (.inl ⟨rfl, rfl, b1, r4⟩)⟩
theorem ref_bin4 (t : List UInt8) (a : Nat) (pl : Int) (o : Pos (List Nd)) (h : RdR 43 priA t a pl o) : RdR 24 (binA (3 + 1)) t a pl o := by
  cases o with
  | ok p =>
    obtain ⟨e, j⟩ := p
    obtain ⟨a', b1, b2, b3⟩ := h
    refine ⟨a', b1, b2, ?_⟩
    refine retB_of_awp tab [600] Tryd.func24 rfl rfl rfl (Nat.le_of_ble_eq_true rfl) rfl ⟨Nat.le_refl _, trivial⟩ (fun w0 F0 A io0 => ?_)
    repeat' (first | refine wG ?_ | refine wD [] b3 ?_ | refine wR ?_ | refine wS ?_ ?_ <;> intro _ | refine wB ?_ ?_ | refine wF ?_)
    all_goals first | exact leVT | exact ⟨rfl, trivial⟩
  | error x =>
    obtain ⟨M, a', b1, b2, b3⟩ := h
    refine ⟨M, a', b1, b2, ?_⟩
    refine retB_of_awp tab [600] Tryd.func24 rfl rfl rfl (Nat.le_of_ble_eq_true rfl) rfl ⟨Nat.le_refl _, trivial⟩ (fun w0 F0 A io0 => ?_)
    repeat' (first | refine wG ?_ | refine wD [] b3 ?_ | refine wR ?_ | refine wS ?_ ?_ <;> intro _ | refine wB ?_ ?_ | refine wF ?_)
    all_goals first | exact leVT | exact ⟨rfl, trivial⟩
end Go.Proofs.YtfnonogemgnlhaaDoor

/-
  Functions that use up the blocks they are lent, and hand back data; a closure put off and a panic among them. Conditions: the table of types is the program's.
-/
set_option linter.unusedSectionVars false
namespace Go.Vw
open Go.RowKit

structure RetL (P : Program) (f : FuncId) (xs : List V) (B : Nat → Option Blk) (y : D) : Prop where
  enters : Enters P f
  run : ∀ (io : Nat → Option Nat) (F : Nat → Prop) (w : World) (vs : Array Value), (∀ b, F b → b < w.heap.size) → vs.size = xs.length → VRT ⟨io, lnO B⟩ F w (fun i => vs[i]?) 0 xs → BsR (OwnA B io) w.heap.size io F w B →
    Calls P f vs w fun e w' => ∃ v F', e = .returned v ∧ Kept (OwnA B io) w w' ∧ (∀ b, F b → F' b) ∧ (∀ b, F' b → b < w'.heap.size ∧ (F b ∨ w.heap.size ≤ b ∨ OwnA B io b)) ∧ DR F' w' y v

section
variable {X : Ctx} {all : Array Oper} {Q : Exit → St → Prop} {s : St} {o : Oper} {rest : List Oper}
theorem clL2 {Pg : Program} {c : Call} {caps : List V} {d : Tmp} {f : FuncId} {xs : List V} {bs : List (Nat × Blk)} {y : D} (hcf : calleeIs s o.op f = true) (hop : o.op = .call c) (hc : calleeOf s c = some (f, caps)) (hdst : o.dst = some d) (hg : gd all s o = some true) (hd : dstOk X.N (some d) = true) (hcov : (keysOk bs (V.refsL xs) && coverR bs bs) = true) (le : LeVT (c.args.toList.map s.opd ++ caps) xs) (hB : AllB s bs) (hP : X.P = Pg) : RetL Pg f xs (lookB bs) y → awpL X all rest Q ((s.subs (bs.map (·.1))).put (some d) (.d y)) → awpL X all (o :: rest) Q s := fun hr k io F a w hs => by
  subst hP
  simp only [Bool.and_eq_true] at hcov
  obtain ⟨c1, c2⟩ := hcov
  refine wpList_cons ?_
  obtain ⟨vs, h1, h2, h3⟩ := run_call (P := X.P) (operands_of (all := all) (fun t _ => hs.tm t)) hop hc hr.enters
  unfold opWp
  rw [if_pos (gd_sound (fun t _ => hs.tm t) hg)]; left
  unfold Oper.wp; rw [h1]
  simp only [Oper.upon]
  have hB' : ∀ k b, lookB bs k = some b → s.blk k = some b := fun k b hk => (lookB_of hB k b hk).1
  have hln : ∀ k, lookB bs k ≠ none → s.ln k ≤ lnO (lookB bs) k := fun k hk => by
    obtain ⟨b, hb⟩ := Option.ne_none_iff_exists'.1 hk
    rw [lnO_of hb, ln_of (hB' k b hb)]; exact Nat.le_refl _
  have hargs : VRT ⟨io, lnO (lookB bs)⟩ F w (fun i => vs[i]?) 0 xs := VRT.agree (io := s.keys io) _ _ _ (fun k hk => ⟨rfl, hln k (hasKey_ne (keysOk_spec c1 k hk))⟩) (le.2 _ _ _ _ _ h3)
  have hbl := hs.lendB hB' (fun k b hk j hj => coverR_spec c2 _ (lookB_mem hk) j hj)
  refine (hr.run io F w vs (fun b h => (hs.ff b h).1) (by rw [h2, le.1]) hargs hbl).mono fun e w' ⟨v, F', he, g, g2, g3, g4⟩ => ?_
  subst he
  have hA : ∀ c, OwnA (lookB bs) io c → (X.A c ∨ X.w0.heap.size ≤ c) ∧ ¬ F c := fun c ⟨k, hk, e⟩ => by
    obtain ⟨b, hb⟩ := Option.ne_none_iff_exists'.1 hk
    have := (hs.bl k b (hB' k b hb)).notF e
    exact ⟨this.2.1, this.1⟩
  have hoth : ∀ j c, (s.subs (bs.map (·.1))).blk j ≠ none → io j = some c → ¬ OwnA (lookB bs) io c := fun j c hj e ⟨k, hk, e'⟩ => by
    obtain ⟨b0, hb0⟩ := Option.ne_none_iff_exists'.1 hj
    obtain ⟨q1, b1, q2⟩ := subs_blk _ hb0
    obtain ⟨b, hb⟩ := Option.ne_none_iff_exists'.1 hk
    have := hs.inj j k c (by rw [q2]; simp) (by rw [hB' k b hb]; simp) e e'
    subst this
    exact q1 (List.mem_map.2 ⟨_, lookB_mem hb, rfl⟩)
  have h0 := (hs.loses (bs.map (·.1))).later g hA hoth
  -- the data's area grows
  have hst : Stays F w' w' := fun _ _ => rfl
  have hi : ∀ k, ((s.subs (bs.map (·.1))).keys io).io k = ((s.subs (bs.map (·.1))).keys io).io k ∧ ((s.subs (bs.map (·.1))).keys io).ln k ≤ ((s.subs (bs.map (·.1))).keys io).ln k := fun k => ⟨rfl, Nat.le_refl _⟩
  have hsr : SR X io F' (s.subs (bs.map (·.1))) a w' := by
    refine ⟨h0.kept, fun t => VR.mono hi g2 hst (Shapes.refl _) _ _ (h0.tm t), h0.nt, DfR.mono hi g2 hst (Shapes.refl _) _ _ h0.df, fun k b hk => ?_, h0.inj, fun b hb => ?_, fun b hb => g2 b (h0.f0 b hb), h0.st⟩
    · refine BR.mono hi g2 hst (Shapes.refl _) (fun c o' e1 e2 e3 => ⟨e2, fun h => ?_⟩) (h0.bl k b hk)
      obtain ⟨q1, q2⟩ := g3 c h
      have hlt : c < w.heap.size := ((hs.loses (bs.map (·.1))).bl k b hk).notF e1 |>.2.2
      rcases q2 with q | q | q
      · exact e3 q
      · omega
      · exact hoth k c (by rw [hk]; simp) e1 q
    · obtain ⟨q1, q2⟩ := g3 b hb
      refine ⟨q1, ?_⟩
      rcases q2 with q | q | q
      · exact (hs.ff b q).2
      · exact .inr (.inl (Nat.le_trans hs.kept.size q))
      · rcases (hA b q).1 with q | q
        · exact .inr (.inr q)
        · exact .inr (.inl q)
  rw [hdst]
  exact k io F' _ _ (hsr.put (dstOk_sound hd) (by simpa only [VR] using g4))
end
theorem wL {Pg : Program} {f : FuncId} {xs : List V} {bs : List (Nat × Blk)} {y : D} {G P : Prop} (hr : RetL Pg f xs (lookB bs) y) (k : G) (h : RetL Pg f xs (lookB bs) y → G → P := by
  first
  | (show _ → _ → awpL _ _ _ _ _
     first
     | exact Go.Vw.clL2 Go.Vw.tt rfl rfl rfl rfl rfl rfl Go.Vw.leVT Go.Vw.allB rfl
     | exact Go.Vw.clL2 (Nat.beq_refl _) rfl rfl rfl rfl rfl rfl Go.Vw.leVT Go.Vw.allB rfl)
  | fail) : P := h hr k

/-! ## A function that puts off a closure and hands back data -/

def OneD (ys : List D) (y : D) : Prop := (∃ x, ys = [x] ∧ LeD x y) ∨ (ys.length ≠ 1 ∧ ∃ zs, y = .tup zs ∧ LeT ys zs)
def endL (T : TypeId → Option TyD) (P : Program) (fn : Func) (y : D) : Exit → St → Prop
  | .ret, s => ∃ g caps bd bd' ds, s.dfs = [(g, caps)] ∧ DefC P g caps bd .returning .returning bd' ∧ AllB s bd ∧ (keysOk bd (V.refsL caps) && coverR bd bd && keysIn bd [] bd') = true ∧ (∃ ys, resAll T (s.over bd') fn.results.toList = some ys ∧ allD ys = some ds) ∧ OneD ds y
  | .panic c, s => ∃ u u' g caps bd bd' ds, c = thrown u ∧ s.dfs = [(g, caps)] ∧ settle u' = .returning ∧ DefC P g caps bd (.panicking (thrown u)) u' bd' ∧ AllB s bd ∧ (keysOk bd (V.refsL caps) && coverR bd bd && keysIn bd [] bd') = true ∧ (∃ ys, resAll T (s.over bd') fn.results.toList = some ys ∧ allD ys = some ds) ∧ OneD ds y
  | _, _ => False
theorem retL_of_awpD {P : Program} {T : TypeId → Option TyD} (hT : TabOk P T) {f : FuncId} {fn : Func} {c : Code} (ks : List Nat) (hf : P.funcs[f]? = some fn) (hname : (fn.name == "runtime.NumGoroutine") = false) (hb : fn.body = some c) {xs : List V} {bs : List (Nat × Blk)} {y : D} (hn : xs.length ≤ fn.ntmps)
    (h : ∀ w0 F0 A io0, awp ⟨P, T, hT, fn.ntmps, w0, A, F0, ks, io0⟩ c (endL T P fn y) (St.initB xs bs)) : RetL P f xs (lookB bs) y := by
  refine ⟨⟨fn, hf, hname, by rw [hb]; rfl⟩, fun io F w vs hF hl hv hbs => ?_⟩
  refine calls_of_wp_defers hf hb ?_
  refine wp_mono (h w F _ io io F _ w (sr_initB hT (ks := ks) hl hn hF hv hbs)) fun e a' w' ⟨s', io', F', hq, hs'⟩ => ?_
  have key : ∀ (u u' : FrameMode) (g : FuncId) (caps : List V) (bd bd' : List (Nat × Blk)) (ds : List D), u ≠ .run → settle u' = .returning → s'.dfs = [(g, caps)] → DefC P g caps bd u u' bd' → AllB s' bd → (keysOk bd (V.refsL caps) && coverR bd bd && keysIn bd [] bd') = true → (∃ ys, resAll T (s'.over bd') fn.results.toList = some ys ∧ allD ys = some ds) → OneD ds y → Leaves P fn a'.tmps (fun e w' => ∃ v F', e = .returned v ∧ Kept (OwnA (lookB bs) io) w w' ∧ (∀ b, F b → F' b) ∧ (∀ b, F' b → b < w'.heap.size ∧ (F b ∨ w.heap.size ≤ b ∨ OwnA (lookB bs) io b)) ∧ DR F' w' y v) a'.defers u w' := fun u u' g caps bd bd' ds hne hset hdf hD hB hcv ⟨ys, hys, hds⟩ hone => by
    simp only [Bool.and_eq_true] at hcv
    obtain ⟨⟨d1, d2⟩, d3⟩ := hcv
    have hdf' := hs'.df
    rw [hdf] at hdf'
    obtain ⟨arr, rest, e1, e2, e3, e4⟩ := hdf'
    have e4 : rest = [] := e4
    subst e4
    rw [e1]
    have hB' : ∀ k b, lookB bd k = some b → s'.blk k = some b := fun k b hk => (lookB_of hB k b hk).1
    have hln' : ∀ k, lookB bd k ≠ none → s'.ln k ≤ lnO (lookB bd) k := fun k hk => by
      obtain ⟨b, hb⟩ := Option.ne_none_iff_exists'.1 hk
      rw [lnO_of hb, ln_of (hB' k b hb)]; exact Nat.le_refl _
    have hargs : VRT ⟨io', lnO (lookB bd)⟩ F' w' (fun i => arr[i]?) 0 caps := VRT.agree (io := s'.keys io') _ _ _ (fun k hk => ⟨rfl, hln' k (hasKey_ne (keysOk_spec d1 k hk))⟩) (VRA.toT e3)
    have hbl := hs'.lendB hB' (fun k b hk j hj => coverR_spec d2 _ (lookB_mem hk) j hj)
    refine leaves_cons hne (f := g) (args := arr) ?_ ?_
    · have := run_enter hD.enters w' arr
      simp only [invoke]
      simpa using this
    · refine (hD.run io' F' w' arr (fun b h => (hs'.ff b h).1) e2 hargs hbl).mono fun e u2 w2 ⟨hu2, v, io2, F2, he, g1, g2, g3, g4, g5, g6⟩ => ?_
      subst he hu2
      simp only
      obtain ⟨key, _⟩ := hs'.afterB [] hB' hD.keep hD.ln hD.refsB (fun k hk => by
        obtain ⟨b, hb⟩ := Option.ne_none_iff_exists'.1 hk
        exact keysIn_spec d3 _ (lookB_mem hb)) (fun k hk => by simp at hk) g1 g2 g3 g4 g6
      rw [hset]
      obtain ⟨vs', hvs, hl', hd'⟩ := resAll_sound hT key _ hys
      have hvd := VRT.ofD hds hd'
      have hlen : vs'.length = ds.length := by rw [hl', allD_map hds]; simp
      refine ⟨_, run_results fn hvs, _, F2, rfl, key.kept, key.f0, key.ff, ?_⟩
      rcases hone with ⟨x, rfl, hx⟩ | ⟨hne1, zs, rfl, hz⟩
      · obtain ⟨v, rfl⟩ := List.length_eq_one_iff.1 (show vs'.length = 1 by simpa using hlen)
        simp only [DRT] at hvd
        obtain ⟨⟨u, hu, hd2⟩, _⟩ := hvd
        simp at hu; subst hu
        exact hx _ _ _ hd2
      · have hn1 : vs'.length ≠ 1 := by rw [hlen]; exact hne1
        rw [dif_neg hn1]
        simp only [DR]
        exact ⟨vs'.toArray, rfl, by simp; rw [hlen, hz.1], hz.2 _ _ _ _ (by simpa using hvd)⟩
  cases e with
  | ret =>
    obtain ⟨g, caps, bd, bd', ds, q1, q2, q3, q4, q5, q6⟩ := hq
    exact key .returning .returning g caps bd bd' ds (by simp) rfl q1 q2 q3 q4 q5 q6
  | panic ch =>
    obtain ⟨u, u', g, caps, bd, bd', ds, q0, q1, qs, q2, q3, q4, q5, q6⟩ := hq
    subst q0
    exact key _ u' g caps bd bd' ds (by simp) qs q1 q2 q3 q4 q5 q6
  | _ => exact hq.elim
end Go.Vw
namespace Go.Vw
open Go.RowKit
/-! ## Interface values -/
theorem run_assert_same {P : Program} {w : World} {t xT : TypeId} {d : TypeDesc} (v : Value) (hu : P.underlying t = some d) (hd : isIfcD d = false) : (Instr.typeAssert (.iface t v) xT t true).run P w = .ok (.tuple #[v, .bool true]) w := by
  cases d <;> first | (cases hd; done) | simp [Instr.typeAssert, run_underlying hu]
theorem run_nilIface_eq {P : Program} {w : World} {ti : TypeId} {ms : Array (String × TypeId)} (hi : P.underlying ti = some (.interface ms)) : (binOp .eql ti .nilIface .nilIface).run P w = .ok (.bool true) w := by
  have h : ∀ d : Nat, (Op.equalIn (d + 1) ti .nilIface .nilIface).run P w = .ok true w := fun d => by simp [Op.equalIn, run_underlying hi]
  simp only [binOp]
  simp [Op.equal, Op.maxDepth, h 9999]
theorem run_iface_nil {P : Program} {w : World} {ti u : TypeId} {x : Value} {ms : Array (String × TypeId)} (hi : P.underlying ti = some (.interface ms)) : (binOp .eql ti (.iface u x) .nilIface).run P w = .ok (.bool false) w := by
  have h : ∀ d : Nat, (Op.equalIn (d + 1) ti (.iface u x) .nilIface).run P w = .ok false w := fun d => by simp [Op.equalIn, run_underlying hi]
  simp only [binOp]
  simp [Op.equal, Op.maxDepth, h 9999]
section
variable {X : Ctx} {all : Array Oper} {Q : Exit → St → Prop} {s : St} {o : Oper} {rest : List Oper}
theorem stepIsNil {t t2 : TypeId} {x : Operand} {cv : Value} {d : Tmp} {b : Bool} (hop : o.op = .binOp .eql t x (.const cv) t2) (hdst : o.dst = some d) (hy : cv = .nilIface) (hx : (s.opd x = .d (.raw .nilIface) ∧ b = true) ∨ ∃ u z, s.opd x = .d (.ifc u z) ∧ b = false) (hg : gd all s o = some true) (hd : dstOk X.N (some d) = true) (hi : X.P.isIface t = true) (k : awpL X all rest Q (s.put (some d) (.d (.bool b)))) : awpL X all (o :: rest) Q s := fun io F a w hs => by
  obtain ⟨dst, op, ty, pos, after, g⟩ := o
  cases hop; cases hdst
  obtain ⟨ms, hu⟩ := underlying_of_isIface hi
  subst hy
  have hvx := hs.opd x
  have hr : (execOp a.eval ⟨some d, .binOp .eql t x (.const .nilIface) t2, ty, pos, after, g⟩).run X.P w = .ok (.value (.bool b)) w := by
    rcases hx with ⟨h1, rfl⟩ | ⟨u, z, h1, rfl⟩
    · rw [h1] at hvx
      simp only [VR, DR] at hvx
      simp [execOp, hvx, show a.eval (.const .nilIface) = .nilIface from rfl, eqGuard, run_nilIface_eq hu]
    · rw [h1] at hvx
      simp only [VR, DR] at hvx
      obtain ⟨v, e, _⟩ := hvx
      simp [execOp, e, show a.eval (.const .nilIface) = .nilIface from rfl, eqGuard, run_iface_nil hu]
  refine wpList_cons (opWp_value (gd_sound (fun t _ => hs.tm t) hg) hr ?_)
  exact k io F _ w (hs.put (dstOk_sound hd) (by simp only [VR, DR]))
theorem stepAssert {t xT : TypeId} {x : Operand} {td : TyD} {d : Tmp} {y : D} (hop : o.op = .typeAssert x xT t true) (hdst : o.dst = some d) (ht : X.T t = some td) (hi : isIfcD td.desc = false) (hx : s.opd x = .d (.ifc t y)) (hg : gd all s o = some true) (hd : dstOk X.N (some d) = true) (k : awpL X all rest Q (s.put (some d) (.d (.tup [y, .bool true])))) : awpL X all (o :: rest) Q s := fun io F a w hs => by
  obtain ⟨dst, op, ty, pos, after, g⟩ := o
  cases hop; cases hdst
  have hu := (X.ok _ _ ht).und
  have hvx := hs.opd x
  rw [hx] at hvx
  simp only [VR, DR] at hvx
  obtain ⟨v, e, hv⟩ := hvx
  have hr : (execOp a.eval ⟨some d, .typeAssert x xT t true, ty, pos, after, g⟩).run X.P w = .ok (.value (.tuple #[v, .bool true])) w := by
    simp only [execOp, e, Sem.run_bind, Sem.run_pure, Result.andThen_ok, run_assert_same v hu hi]
  refine wpList_cons (opWp_value (gd_sound (fun t _ => hs.tm t) hg) hr ?_)
  refine k io F _ w (hs.put (dstOk_sound hd) ?_)
  simp only [VR, DR, DRT]
  exact ⟨#[v, .bool true], rfl, rfl, ⟨v, by simp, hv⟩, ⟨.bool true, by simp, rfl⟩, trivial⟩
end
theorem wI {G P : Prop} (k : G) (h : G → P := by
  first
  | (show _ → awpL _ _ _ _ _
     first
     | exact Go.Vw.stepIsNil rfl rfl rfl (.inl ⟨rfl, rfl⟩) rfl rfl (by kernel_rfl)
     | exact Go.Vw.stepIsNil rfl rfl rfl (.inr ⟨_, _, rfl, rfl⟩) rfl rfl (by kernel_rfl)
     | exact Go.Vw.stepAssert rfl rfl rfl rfl rfl rfl rfl)
  | fail) : P := h k
end Go.Vw

/-
  The program's parser: the whole text. Conditions: the text is not too long.
-/
set_option maxHeartbeats 8000000
namespace Go.Proofs.YtfnonogemgnlhaaDoor
open Go.Vw
attribute [local irreducible] awp awpL awpR

abbrev fmT : TypeId := 25
abbrev ftT : TypeId := 44
abbrev frB (a b c d : D) : List (Nat × Blk) := [(0, .box fmT [.d a, .d b]), (1, .box ftT [.d c, .d d])]
theorem clos_nil (a b c d : D) : DefC Tryd.prog 34 [.ptr 0 0, .ptr 1 0] (frB a b c d) .returning .returning (frB a b c d) := by
  refine defC_of_awp tab [0, 1] Tryd.func34 rfl rfl rfl rfl rfl rfl (.nil) rfl (Nat.le_of_ble_eq_true rfl) rfl (⟨Nat.le_refl _, Nat.le_refl _, trivial⟩) (fun w0 F0 A io0 => ?_)
  repeat' (first | refine wG ?_ | refine wI ?_ | refine rgX 7 3 [] ?_ | refine wR ?_ | refine wS ?_ ?_ <;> intro _ | refine wB ?_ ?_ | refine wF ?_)
  all_goals first | exact leVT | exact ⟨rfl, rfl, trivial⟩
theorem clos_got (a b c d : D) (x : PErr) : DefC Tryd.prog 34 [.ptr 0 0, .ptr 1 0] (frB a b c d) (.panicking (thrown (ftV x))) (.panicking [{ v := ftV x, recovered := true }]) (frB (.str []) .nils (.int .i64 x.1) (.int .i64 x.2)) := by
  refine defC_of_awp tab [0, 1] Tryd.func34 rfl rfl rfl rfl rfl rfl (.got (x := .agg [.int .i64 x.1, .int .i64 x.2]) rfl) rfl (Nat.le_of_ble_eq_true rfl) rfl (⟨Nat.le_refl _, Nat.le_refl _, trivial⟩) (fun w0 F0 A io0 => ?_)
  repeat' (first | refine wG ?_ | refine wI ?_ | refine rgX 7 3 [] ?_ | refine wR ?_ | refine wS ?_ ?_ <;> intro _ | refine wB ?_ ?_ | refine wF ?_)
  all_goals first | exact leVT | exact ⟨rfl, rfl, trivial⟩
inductive Fml (t : List UInt8) : Except PErr (List UInt8 × List Nd) → Prop where
  | name {x} (h : nameP t (skp t 0) = .error x) : Fml t (.error x)
  | tilde {s i x} (h : nameP t (skp t 0) = .ok (s, i)) (h1 : mustP t 126 i = .error x) : Fml t (.error x)
  | right {s i j x} (h : nameP t (skp t 0) = .ok (s, i)) (h1 : mustP t 126 i = .ok j) (h2 : Rc t (.lev 0) j (.error x)) : Fml t (.error x)
  | rest {s i j e k} (h : nameP t (skp t 0) = .ok (s, i)) (h1 : mustP t 126 i = .ok j) (h2 : Rc t (.lev 0) j (.ok (e, k))) (h3 : word t k ≠ []) : Fml t (.error (k, 3))
  | done {s i j e k} (h : nameP t (skp t 0) = .ok (s, i)) (h1 : mustP t 126 i = .ok j) (h2 : Rc t (.lev 0) j (.ok (e, k))) (h3 : word t k = []) : Fml t (.ok (s, e))
def fmlD : Except PErr (List UInt8 × List Nd) → D
  | .error x => .tup [.agg [.str [], .nils], .agg [.int .i64 x.1, .int .i64 x.2]]
  | .ok (s, e) => .tup [.agg [.str s, ndsD e], .agg [.int .i64 0, .int .i64 0]]
theorem parser_formula (t : List UInt8) (hl : t.length < 1000000) (o : Except PErr (List UInt8 × List Nd)) (h : Fml t o) : RetL Tryd.prog 21 [.ptr 600 0] (lookB [(600, psB t 0 0)]) (fmlD o) := by
  have n := parser_next t 0 0 (Nat.zero_le _) (by omega)
  have h0 : At t (skp t 0) := ⟨runE_le _ (Nat.zero_le _), runE_idem (Nat.zero_le _)⟩
  have l0 := h0.le
  cases h with
  | @name x h =>
    have m := parser_nameE t _ x l0 h
    generalize skp t 0 = i0 at *
    clear h0 h
    refine retL_of_awpD tab [600] Tryd.func21 rfl rfl (Nat.le_of_ble_eq_true rfl) (fun w0 F0 A io0 => ?_)
    repeat' (first | refine stopA 1 tt ?_ | refine wX ?_ | refine wE ?_ | refine wG ?_ | refine wR ?_ | refine wS ?_ ?_ <;> intro _)
    refine stopOut ?_
    refine awp_rename [(0, .ptr 600 0), (2, .ptr 2 0), (3, .ptr 3 0)] [(600, psB t 0 0), (2, .box fmT [.d (.str []), .d .nils]), (3, .box ftT [.d (.int .i64 0), .d (.int .i64 0)])] [(2, 0), (3, 1)] ⟨rfl, rfl, rfl, rfl⟩ ⟨rfl, rfl, rfl, trivial⟩ ?_
    repeat' (first | refine wX ?_ | refine wE ?_ | refine wG ?_ | refine wP m ?_ | refine wD [] n ?_ | refine wR ?_ | refine wS ?_ ?_ <;> intro _)
    exact ⟨_, _, _, _, _, _, _, rfl, rfl, rfl, clos_got _ _ _ _ x, ⟨rfl, rfl, trivial⟩, rfl, ⟨_, rfl, rfl⟩, .inr ⟨by simp, _, rfl, leT⟩⟩
  | @tilde s i x h h1 =>
    have m := parser_name t _ i s l0 (by omega) h
    have hi := (nameP_ok h).1.le
    have m1 := parser_mustE t 126 i x hi h1
    generalize skp t 0 = i0 at *
    clear h0 h h1
    refine retL_of_awpD tab [600] Tryd.func21 rfl rfl (Nat.le_of_ble_eq_true rfl) (fun w0 F0 A io0 => ?_)
    repeat' (first | refine stopA 1 tt ?_ | refine wX ?_ | refine wE ?_ | refine wG ?_ | refine wR ?_ | refine wS ?_ ?_ <;> intro _)
    refine stopOut ?_
    refine awp_rename [(0, .ptr 600 0), (2, .ptr 2 0), (3, .ptr 3 0)] [(600, psB t 0 0), (2, .box fmT [.d (.str []), .d .nils]), (3, .box ftT [.d (.int .i64 0), .d (.int .i64 0)])] [(2, 0), (3, 1)] ⟨rfl, rfl, rfl, rfl⟩ ⟨rfl, rfl, rfl, trivial⟩ ?_
    repeat' (first | refine wX ?_ | refine wE ?_ | refine wG ?_ | refine wP m1 ?_ | refine wD [] n ?_ | refine wD [] m ?_ | refine wR ?_ | refine wS ?_ ?_ <;> intro _)
    exact ⟨_, _, _, _, _, _, _, rfl, rfl, rfl, clos_got _ _ _ _ x, ⟨rfl, rfl, trivial⟩, rfl, ⟨_, rfl, rfl⟩, .inr ⟨by simp, _, rfl, leT⟩⟩
  | @right s i j x h h1 h2 =>
    have m := parser_name t _ i s l0 (by omega) h
    have hi := (nameP_ok h).1.le
    have m1 := parser_must t 126 i j hi (by omega) h1
    have hj := (mustP_ok h1).1
    have m2 : PanB Tryd.prog 38 [.ptr 600 0, .d (.int .i64 (0 : Nat))] _ _ := parser_level t hl 0 j _ (by omega) hj h2
    generalize skp t 0 = i0 at *
    clear h0 h h1 h2
    refine retL_of_awpD tab [600] Tryd.func21 rfl rfl (Nat.le_of_ble_eq_true rfl) (fun w0 F0 A io0 => ?_)
    repeat' (first | refine stopA 1 tt ?_ | refine wX ?_ | refine wE ?_ | refine wG ?_ | refine wR ?_ | refine wS ?_ ?_ <;> intro _)
    refine stopOut ?_
    refine awp_rename [(0, .ptr 600 0), (2, .ptr 2 0), (3, .ptr 3 0)] [(600, psB t 0 0), (2, .box fmT [.d (.str []), .d .nils]), (3, .box ftT [.d (.int .i64 0), .d (.int .i64 0)])] [(2, 0), (3, 1)] ⟨rfl, rfl, rfl, rfl⟩ ⟨rfl, rfl, rfl, trivial⟩ ?_
    repeat' (first | refine wX ?_ | refine wE ?_ | refine wG ?_ | refine wP m2 ?_ | refine wD [] n ?_ | refine wD [] m ?_ | refine wD [] m1 ?_ | refine wR ?_ | refine wS ?_ ?_ <;> intro _)
    exact ⟨_, _, _, _, _, _, _, rfl, rfl, rfl, clos_got _ _ _ _ x, ⟨rfl, rfl, trivial⟩, rfl, ⟨_, rfl, rfl⟩, .inr ⟨by simp, _, rfl, leT⟩⟩
  | @rest s i j e k h h1 h2 h3 =>
    have m := parser_name t _ i s l0 (by omega) h
    have hi := (nameP_ok h).1.le
    have m1 := parser_must t 126 i j hi (by omega) h1
    have hj := (mustP_ok h1).1
    have m2 : RetB Tryd.prog 38 [.ptr 600 0, .d (.int .i64 (0 : Nat))] _ _ _ := parser_level t hl 0 j _ (by omega) hj h2
    have hk := (h2.goes hj (.inr rfl)).1.le
    have w := parser_word t k hk
    have f := parser_fail t k 3
    generalize skp t 0 = i0 at *
    generalize word t k = v at *
    clear h0 h h1 h2
    refine retL_of_awpD tab [600] Tryd.func21 rfl rfl (Nat.le_of_ble_eq_true rfl) (fun w0 F0 A io0 => ?_)
    repeat' (first | refine stopA 1 tt ?_ | refine wX ?_ | refine wE ?_ | refine wG ?_ | refine wR ?_ | refine wS ?_ ?_ <;> intro _)
    refine stopOut ?_
    refine awp_rename [(0, .ptr 600 0), (2, .ptr 2 0), (3, .ptr 3 0)] [(600, psB t 0 0), (2, .box fmT [.d (.str []), .d .nils]), (3, .box ftT [.d (.int .i64 0), .d (.int .i64 0)])] [(2, 0), (3, 1)] ⟨rfl, rfl, rfl, rfl⟩ ⟨rfl, rfl, rfl, trivial⟩ ?_
    repeat' (first | refine wX ?_ | refine wE ?_ | refine wG ?_ | refine wP f ?_ | refine wD [] n ?_ | refine wD [] m ?_ | refine wD [] m1 ?_ | refine wD [] m2 ?_ | refine wD [] w ?_ | refine wR ?_ | refine wS ?_ ?_ <;> intro _)
    exact ⟨_, _, _, _, _, _, _, rfl, rfl, rfl, clos_got _ _ _ _ (k, 3), ⟨rfl, rfl, trivial⟩, rfl, ⟨_, rfl, rfl⟩, .inr ⟨by simp, _, rfl, leT⟩⟩
  | @done s i j e k h h1 h2 h3 =>
    have m := parser_name t _ i s l0 (by omega) h
    have hi := (nameP_ok h).1.le
    have m1 := parser_must t 126 i j hi (by omega) h1
    have hj := (mustP_ok h1).1
    have m2 : RetB Tryd.prog 38 [.ptr 600 0, .d (.int .i64 (0 : Nat))] _ _ _ := parser_level t hl 0 j _ (by omega) hj h2
    have hk := (h2.goes hj (.inr rfl)).1.le
    have w := parser_word t k hk
    rw [h3] at w
    generalize skp t 0 = i0 at *
    clear h0 h h1 h2 h3
    refine retL_of_awpD tab [600] Tryd.func21 rfl rfl (Nat.le_of_ble_eq_true rfl) (fun w0 F0 A io0 => ?_)
    repeat' (first | refine stopA 1 tt ?_ | refine wX ?_ | refine wE ?_ | refine wG ?_ | refine wR ?_ | refine wS ?_ ?_ <;> intro _)
    refine stopOut ?_
    refine awp_rename [(0, .ptr 600 0), (2, .ptr 2 0), (3, .ptr 3 0)] [(600, psB t 0 0), (2, .box fmT [.d (.str []), .d .nils]), (3, .box ftT [.d (.int .i64 0), .d (.int .i64 0)])] [(2, 0), (3, 1)] ⟨rfl, rfl, rfl, rfl⟩ ⟨rfl, rfl, rfl, trivial⟩ ?_
    repeat' (first | refine wX ?_ | refine wE ?_ | refine wG ?_ | refine wD [] n ?_ | refine wD [] m ?_ | refine wD [] m1 ?_ | refine wD [] m2 ?_ | refine wD [] w ?_ | refine wR ?_ | refine wS ?_ ?_ <;> intro _)
    exact ⟨_, _, _, _, _, rfl, clos_nil _ _ _ _, ⟨rfl, rfl, trivial⟩, rfl, ⟨_, rfl, rfl⟩, .inr ⟨by simp, _, rfl, leT⟩⟩
theorem Fml.err {t : List UInt8} {x : PErr} (h : Fml t (.error x)) : ErrIn t 0 x := by
  have h0 : At t (skp t 0) := ⟨runE_le _ (Nat.zero_le _), runE_idem (Nat.zero_le _)⟩
  cases h with
  | name h => rw [(nameP_er h).1]; exact (h0.err (.inl rfl)).mono (Nat.zero_le _)
  | tilde h h1 => rw [(mustP_er h1).1]; exact ((nameP_ok h).1.err (.inl rfl)).mono (Nat.zero_le _)
  | right h h1 h2 => exact (h2.goes (mustP_ok h1).1 (.inr rfl)).mono (Nat.zero_le _)
  | rest h h1 h2 h3 => exact ((h2.goes (mustP_ok h1).1 (.inr rfl)).1.err (.inl rfl)).mono (Nat.zero_le _)
theorem Fml.len {t : List UInt8} {s : List UInt8} {e : List Nd} (h : Fml t (.ok (s, e))) : e.length ≤ t.length ∧ 1 ≤ e.length ∧ isName s = true := by
  cases h with
  | done h h1 h2 h3 =>
    have g := h2.goes (mustP_ok h1).1 (.inr rfl)
    have g1 := g.1.le
    have g2 := g.2.2.1
    simp only [Kd.pre] at g2
    exact ⟨by omega, g.2.2.2.1, (nameP_ok h).2.2.2.2⟩
def prsO : Except PErr (List UInt8 × List Nd) → Except PErr (List UInt8 × List Nd)
  | .error x => .error x
  | .ok (s, e) => if 64 < e.length then .error (0, 2) else .ok (s, e)
def prsD : Except PErr (List UInt8 × List Nd) → D
  | .error x => .tup [.agg [.str [], .nils], .int .i64 x.1, .int .i64 x.2]
  | .ok (s, e) => .tup [.agg [.str s, ndsD e], .int .i64 0, .int .i64 0]
theorem formula_Parse (t : List UInt8) (hl : t.length ≤ 65536) (o : Except PErr (List UInt8 × List Nd)) (h : Fml t o) : Ret Tryd.prog 11 [.str t] (· = prsD (prsO o)) := by
  have f := parser_formula t (by omega) o h
  cases o with
  | error x =>
    have e := h.err
    have e2 : x.2 = 3 ∨ x.2 = 1 := e.2.2.2
    have f : RetL Tryd.prog 21 [.ptr 600 0] (lookB [(600, psB t 0 0)]) (.tup [.agg [.str [], .nils], .agg [.int .i64 x.1, .int .i64 x.2]]) := f
    show Ret _ _ _ (· = .tup [.agg [.str [], .nils], .int .i64 x.1, .int .i64 x.2])
    clear h e
    refine ret_of_awp tab Tryd.func11 rfl rfl (Nat.le_of_ble_eq_true rfl) (fun w0 F0 => ?_)
    repeat' (first | refine stopA 4 tt ?_ | refine wG ?_ | refine rgX 6 7 [] ?_ | refine wR ?_ | refine wS ?_ ?_ <;> intro _ | refine finTG ?_)
    refine stopOut ?_
    refine awp_rename [(0, .d (.str t)), (2, .ptr 2 0), (3, .d (.int .i64 0)), (4, .d (.int .i64 0)), (5, .ptr 13 0)] [(2, .box fmT [.d (.str []), .d .nils]), (13, psB t 0 0)] [(13, 600)] ⟨rfl, rfl, rfl, rfl, rfl, rfl⟩ ⟨rfl, rfl, trivial⟩ ?_
    repeat' (first | refine wG ?_ | refine wL f ?_ | refine rgX 6 7 [] ?_ | refine wR ?_ | refine wS ?_ ?_ <;> intro _ | refine finTG ?_)
    exact leT
  | ok p =>
    obtain ⟨s, e⟩ := p
    have f : RetL Tryd.prog 21 [.ptr 600 0] (lookB [(600, psB t 0 0)]) (.tup [.agg [.str s, ndsD e], .agg [.int .i64 0, .int .i64 0]]) := f
    have g := h.len
    unfold prsO
    simp only
    by_cases h64 : 64 < e.length
    · rw [if_pos h64]
      show Ret _ _ _ (· = .tup [.agg [.str [], .nils], .int .i64 0, .int .i64 2])
      clear h
      refine ret_of_awp tab Tryd.func11 rfl rfl (Nat.le_of_ble_eq_true rfl) (fun w0 F0 => ?_)
      repeat' (first | refine stopA 4 tt ?_ | refine wG ?_ | refine rgX 6 7 [] ?_ | refine wR ?_ | refine wS ?_ ?_ <;> intro _ | refine finTG ?_)
      refine stopOut ?_
      refine awp_rename [(0, .d (.str t)), (2, .ptr 2 0), (3, .d (.int .i64 0)), (4, .d (.int .i64 0)), (5, .ptr 13 0)] [(2, .box fmT [.d (.str []), .d .nils]), (13, psB t 0 0)] [(13, 600)] ⟨rfl, rfl, rfl, rfl, rfl, rfl⟩ ⟨rfl, rfl, trivial⟩ ?_
      repeat' (first | refine wG ?_ | refine wL f ?_ | refine rgX 6 7 [] ?_ | refine wR ?_ | refine wS ?_ ?_ <;> intro _ | refine finTG ?_)
      exact leT
    · rw [if_neg h64]
      show Ret _ _ _ (· = .tup [.agg [.str s, ndsD e], .int .i64 0, .int .i64 0])
      clear h
      refine ret_of_awp tab Tryd.func11 rfl rfl (Nat.le_of_ble_eq_true rfl) (fun w0 F0 => ?_)
      repeat' (first | refine stopA 4 tt ?_ | refine wG ?_ | refine rgX 6 7 [] ?_ | refine wR ?_ | refine wS ?_ ?_ <;> intro _ | refine finTG ?_)
      refine stopOut ?_
      refine awp_rename [(0, .d (.str t)), (2, .ptr 2 0), (3, .d (.int .i64 0)), (4, .d (.int .i64 0)), (5, .ptr 13 0)] [(2, .box fmT [.d (.str []), .d .nils]), (13, psB t 0 0)] [(13, 600)] ⟨rfl, rfl, rfl, rfl, rfl, rfl⟩ ⟨rfl, rfl, trivial⟩ ?_
      repeat' (first | refine wG ?_ | refine wL f ?_ | refine rgX 6 7 [] ?_ | refine wR ?_ | refine wS ?_ ?_ <;> intro _ | refine finTG ?_)
      exact leT
end Go.Proofs.YtfnonogemgnlhaaDoor

/-
  The reference's reader: the whole text. Conditions: the text is not too long.
-/
set_option maxHeartbeats 8000000
namespace Go.Proofs.YtfnonogemgnlhaaDoor
open Go.Vw
attribute [local irreducible] awp awpL awpR

theorem skp_mono {t : List UInt8} {a b : Nat} (h : a ≤ b) (hb : b ≤ t.length) : skp t a ≤ skp t b := by
  by_cases q : b ≤ skp t a
  · have l := runE_le isBl (t := t) (i := a) (by omega)
    have : skp t b = skp t a := runE_eq q l (fun k h1 h2 => runE_in isBl (by omega) h2) (fun h => runE_stop isBl h)
    omega
  · have := skp_ge t b
    omega
theorem ref_all (t : List UInt8) (pl : Int) (hl : t.length < 1000000) : ∀ (n : Nat) (a : Nat), a ≤ t.length → (∀ r o, r ≤ 3 → 6 * (t.length - skp t a) + (5 - r) ≤ n → Rs t (.lev r) (skp t a) o → RdR 24 (binA (r + 1)) t a pl o) ∧ (∀ o, 6 * (t.length - skp t a) + 1 ≤ n → Rs t .pri (skp t a) o → RdR 68 priA t a pl o) := by
  intro n
  induction n using Nat.strongRecOn with
  | _ n ih =>
    intro a ha
    have hm := skp_max t a
    refine ⟨fun r o hr hn h => ?_, fun o hn h => ?_⟩
    · by_cases h3 : r = 3
      · subst h3
        exact ref_bin4 t a pl o (ref_raisedStep t a pl hl ha (fun o h => (ih (n - 1) (by omega) a ha).2 o (by omega) h) o h)
      · exact ref_binaryStep t a pl hl ha r (by omega) (fun b o hab hb h => by
          have := skp_mono hab hb
          exact (ih (n - 1) (by omega) b hb).1 (r + 1) o (by omega) (by omega) h) o h
    · exact ref_primStep t a pl hl ha (fun b o hab hb h => by
          have := skp_max t b
          exact (ih (n - 1) (by omega) b hb).1 0 o (by omega) (by omega) h) o h
theorem ref_binary (t : List UInt8) (pl : Int) (hl : t.length < 1000000) (a : Nat) (ha : a ≤ t.length) (o : Pos (List Nd)) (h : Rs t (.lev 0) (skp t a) o) : RdR 24 (binA 1) t a pl o := (ref_all t pl hl _ a ha).1 0 o (by omega) (Nat.le_refl _) h
inductive Fm0 (t : List UInt8) : Except PErr (List UInt8 × List Nd) → Prop where
  | name {x} (h : nameP t (skp t 0) = .error x) : Fm0 t (.error x)
  | tilde {s i x} (h : nameP t (skp t 0) = .ok (s, i)) (h1 : mustP t 126 i = .error x) : Fm0 t (.error x)
  | right {s i j x} (h : nameP t (skp t 0) = .ok (s, i)) (h1 : mustP t 126 i = .ok j) (h2 : Rs t (.lev 0) j (.error x)) : Fm0 t (.error x)
  | rest {s i j e k} (h : nameP t (skp t 0) = .ok (s, i)) (h1 : mustP t 126 i = .ok j) (h2 : Rs t (.lev 0) j (.ok (e, k))) (h3 : word t k ≠ []) : Fm0 t (.error (k, 3))
  | done {s i j e k} (h : nameP t (skp t 0) = .ok (s, i)) (h1 : mustP t 126 i = .ok j) (h2 : Rs t (.lev 0) j (.ok (e, k))) (h3 : word t k = []) : Fm0 t (.ok (s, e))
theorem ref09_ParseE (t : List UInt8) (hl : t.length ≤ 65536) (x : PErr) (h : Fm0 t (.error x)) : Ret Tryd.prog 12 [.str t] (· = prsD (.error x)) := by
  show Ret _ _ _ (· = .tup [.agg [.str [], .nils], .int .i64 x.1, .int .i64 x.2])
  have hm0 := skp_max t 0
  have h0 : At t (skp t 0) := ⟨runE_le _ (Nat.zero_le _), runE_idem (Nat.zero_le _)⟩
  have hl0 := h0.le
  cases h with
  | name h =>
    obtain ⟨e1, e2⟩ := nameP_er h
    subst e1
    have n := ref_nameN t 0 0 (by omega) (Nat.zero_le _) e2
    generalize skp t 0 = i0 at *
    have hm1 := skp_max t i0
    have w := ref_wantE t i0 3 i0 126 (by omega) (by omega) (by decide) (by decide)
    generalize skp t i0 = i1 at *
    have hm2 := skp_max t i1
    have b := ref_binaryE t 3 i0 (by omega) (by decide) 3 1 i1 rfl (by omega)
    generalize skp t i1 = i2 at *
    have hm3 := skp_max t i2
    have s := ref_sign t i2 3 i0 0 (by omega) (by omega) (.inr ⟨by decide, rfl⟩)
    generalize skp t i2 = i3 at *
    have f := ref_failE t i3 3 i0 3 (by decide)
    clear h e2 h0
    refine ret_of_awp tab Tryd.func12 rfl rfl (Nat.le_of_ble_eq_true rfl) (fun w0 F0 => ?_)
    repeat' (first | refine stopA 4 tt ?_ | refine wG ?_ | refine rgX 10 11 [] ?_ | refine wR ?_ | refine wS ?_ ?_ <;> intro _ | refine finTG ?_)
    refine stopOut ?_
    refine awp_rename [(0, .d (.str t)), (2, .ptr 2 0), (3, .d (.int .i64 0)), (4, .d (.int .i64 0)), (5, .ptr 13 0)] [(2, .box fmT [.d (.str []), .d .nils]), (13, rdB t 0 0 0)] [(13, 600)] ⟨rfl, rfl, rfl, rfl, rfl, rfl⟩ ⟨rfl, rfl, trivial⟩ ?_
    repeat' (first | refine wG ?_ | refine wD [] n ?_ | refine wD [] w ?_ | refine wD [] b ?_ | refine wD [] s ?_ | refine wD [] f ?_ | refine rgX 10 11 [] ?_ | refine wR ?_ | refine wS ?_ ?_ <;> intro _ | refine finTG ?_)
    all_goals exact leT
  | @tilde nm i _ h h1 =>
    obtain ⟨e1, e2⟩ := mustP_er h1
    subst e1
    obtain ⟨a1, a2, a3, a4, a5⟩ := nameP_ok h
    have n := ref_nameY t 0 0 (by omega) (Nat.zero_le _) (a4 ▸ a5)
    rw [← a4] at n
    have hi : skp t (wend t (skp t 0)) = i := a3.symm
    have hw := wend_le t (skp t 0)
    have hne : sgI t i ≠ 126 := fun h => e2 ((word_sg (by decide) (by decide) (by decide)).2 h)
    have w := ref_wantN t (wend t (skp t 0)) 0 126 (by omega) (by omega) (by rw [hi]; exact hne)
    rw [hi] at w
    generalize wend t (skp t 0) = b0 at *
    have hiL := a1.le
    have b := ref_binaryE t 3 i (by omega) (by decide) 3 1 i rfl (by omega)
    rw [a1.skp] at b
    have s := ref_sign t i 3 i 0 (by omega) (by omega) (.inr ⟨by decide, rfl⟩)
    rw [a1.skp] at s
    have f := ref_failE t i 3 i 3 (by decide)
    clear h h1 e2 h0 a5 a4 a3 a2 a1
    refine ret_of_awp tab Tryd.func12 rfl rfl (Nat.le_of_ble_eq_true rfl) (fun w0 F0 => ?_)
    repeat' (first | refine stopA 4 tt ?_ | refine wG ?_ | refine rgX 10 11 [] ?_ | refine wR ?_ | refine wS ?_ ?_ <;> intro _ | refine finTG ?_)
    refine stopOut ?_
    refine awp_rename [(0, .d (.str t)), (2, .ptr 2 0), (3, .d (.int .i64 0)), (4, .d (.int .i64 0)), (5, .ptr 13 0)] [(2, .box fmT [.d (.str []), .d .nils]), (13, rdB t 0 0 0)] [(13, 600)] ⟨rfl, rfl, rfl, rfl, rfl, rfl⟩ ⟨rfl, rfl, trivial⟩ ?_
    repeat' (first | refine wG ?_ | refine wD [] n ?_ | refine wD [] w ?_ | refine wD [] b ?_ | refine wD [] s ?_ | refine wD [] f ?_ | refine rgX 10 11 [] ?_ | refine wR ?_ | refine wS ?_ ?_ <;> intro _ | refine finTG ?_)
    all_goals exact leT
  | @right nm i j _ h h1 h2 =>
    obtain ⟨a1, a2, a3, a4, a5⟩ := nameP_ok h
    obtain ⟨b1, b2, b3, b4⟩ := mustP_ok h1
    have n := ref_nameY t 0 0 (by omega) (Nat.zero_le _) (a4 ▸ a5)
    rw [← a4] at n
    have hi : skp t (wend t (skp t 0)) = i := a3.symm
    have hw := wend_le t (skp t 0)
    have he : sgI t i = 126 := (word_sg (by decide) (by decide) (by decide)).1 b4
    have w := ref_wantY t (wend t (skp t 0)) 0 126 (by omega) (by omega) (by rw [hi]; exact he)
    rw [hi] at w
    generalize wend t (skp t 0) = b0 at *
    have hiL := lt_of_word (t := t) (i := i) (by rw [b4]; simp)
    have hn := sg_nxt (by decide) (by decide) b4
    rw [b3, hn] at h2
    have g : ErrIn t (skp t (i + 1)) x := h2.goes ⟨by have := skp_max t (i + 1); omega, skp_skp t _⟩
    have hx : x.2 ≠ 0 := by have := g.2.2.2; omega
    obtain ⟨M, a', c1, c2, b⟩ := ref_binary t 0 (by omega) (i + 1) (by omega) _ h2
    have hm := skp_max t a'
    have s := ref_sign t a' x.2 x.1 0 (by omega) (by omega) (.inr ⟨hx, rfl⟩)
    generalize skp t a' = i3 at *
    have f := ref_failE t i3 x.2 x.1 3 hx
    clear h h1 h2 g h0 a5 a4 a3 a2 a1 b1 b2 b3 b4 hn
    refine ret_of_awp tab Tryd.func12 rfl rfl (Nat.le_of_ble_eq_true rfl) (fun w0 F0 => ?_)
    repeat' (first | refine stopA 4 tt ?_ | refine wG ?_ | refine rgX 10 11 [] ?_ | refine wR ?_ | refine wS ?_ ?_ <;> intro _ | refine finTG ?_)
    refine stopOut ?_
    refine awp_rename [(0, .d (.str t)), (2, .ptr 2 0), (3, .d (.int .i64 0)), (4, .d (.int .i64 0)), (5, .ptr 13 0)] [(2, .box fmT [.d (.str []), .d .nils]), (13, rdB t 0 0 0)] [(13, 600)] ⟨rfl, rfl, rfl, rfl, rfl, rfl⟩ ⟨rfl, rfl, trivial⟩ ?_
    repeat' (first | refine wG ?_ | refine wD [] n ?_ | refine wD [] w ?_ | refine wD [] b ?_ | refine wD [] s ?_ | refine wD [] f ?_ | refine rgX 10 11 [] ?_ | refine wR ?_ | refine wS ?_ ?_ <;> intro _ | refine finTG ?_)
    all_goals exact leT
  | @rest nm i j e k h h1 h2 h3 =>
    obtain ⟨a1, a2, a3, a4, a5⟩ := nameP_ok h
    obtain ⟨b1, b2, b3, b4⟩ := mustP_ok h1
    have n := ref_nameY t 0 0 (by omega) (Nat.zero_le _) (a4 ▸ a5)
    rw [← a4] at n
    have hi : skp t (wend t (skp t 0)) = i := a3.symm
    have hw := wend_le t (skp t 0)
    have he : sgI t i = 126 := (word_sg (by decide) (by decide) (by decide)).1 b4
    have w := ref_wantY t (wend t (skp t 0)) 0 126 (by omega) (by omega) (by rw [hi]; exact he)
    rw [hi] at w
    generalize wend t (skp t 0) = b0 at *
    have hiL := lt_of_word (t := t) (i := i) (by rw [b4]; simp)
    have hn := sg_nxt (by decide) (by decide) b4
    rw [b3, hn] at h2
    have hkL := lt_of_word h3
    obtain ⟨a', c1, c2, b⟩ := ref_binary t 0 (by omega) (i + 1) (by omega) _ h2
    have s := ref_sign t a' 0 0 _ (by omega) (by omega) (.inl ⟨rfl, rfl⟩)
    rw [c2] at s
    generalize sgI t k = v at *
    have f := ref_fail0 t k 0 3
    clear h h1 h2 h3 h0 a5 a4 a3 a2 a1 b1 b2 b3 b4 hn
    show Ret _ _ _ (· = .tup [.agg [.str [], .nils], .int .i64 k, .int .i64 3])
    refine ret_of_awp tab Tryd.func12 rfl rfl (Nat.le_of_ble_eq_true rfl) (fun w0 F0 => ?_)
    repeat' (first | refine stopA 4 tt ?_ | refine wG ?_ | refine rgX 10 11 [] ?_ | refine wR ?_ | refine wS ?_ ?_ <;> intro _ | refine finTG ?_)
    refine stopOut ?_
    refine awp_rename [(0, .d (.str t)), (2, .ptr 2 0), (3, .d (.int .i64 0)), (4, .d (.int .i64 0)), (5, .ptr 13 0)] [(2, .box fmT [.d (.str []), .d .nils]), (13, rdB t 0 0 0)] [(13, 600)] ⟨rfl, rfl, rfl, rfl, rfl, rfl⟩ ⟨rfl, rfl, trivial⟩ ?_
    repeat' (first | refine wG ?_ | refine wD [] n ?_ | refine wD [] w ?_ | refine wD [] b ?_ | refine wD [] s ?_ | refine wD [] f ?_ | refine rgX 10 11 [] ?_ | refine wR ?_ | refine wS ?_ ?_ <;> intro _ | refine finTG ?_)
    all_goals exact leT
theorem ref09_ParseO (t : List UInt8) (hl : t.length ≤ 65536) (nm : List UInt8) (e : List Nd) (h : Fm0 t (.ok (nm, e))) : Ret Tryd.prog 12 [.str t] (· = prsD (prsO (.ok (nm, e)))) := by
  have hm0 := skp_max t 0
  have h0 : At t (skp t 0) := ⟨runE_le _ (Nat.zero_le _), runE_idem (Nat.zero_le _)⟩
  have hl0 := h0.le
  cases h with
  | @done _ i j _ k h h1 h2 h3 =>
    obtain ⟨a1, a2, a3, a4, a5⟩ := nameP_ok h
    obtain ⟨b1, b2, b3, b4⟩ := mustP_ok h1
    have n := ref_nameY t 0 0 (by omega) (Nat.zero_le _) (a4 ▸ a5)
    rw [← a4] at n
    have hi : skp t (wend t (skp t 0)) = i := a3.symm
    have hw := wend_le t (skp t 0)
    have he : sgI t i = 126 := (word_sg (by decide) (by decide) (by decide)).1 b4
    have w := ref_wantY t (wend t (skp t 0)) 0 126 (by omega) (by omega) (by rw [hi]; exact he)
    rw [hi] at w
    generalize wend t (skp t 0) = b0 at *
    have hiL := lt_of_word (t := t) (i := i) (by rw [b4]; simp)
    have hn := sg_nxt (by decide) (by decide) b4
    rw [b3, hn] at h2
    have g : Goes t (.lev 0) (skp t (i + 1)) (.ok (e, k)) := h2.goes ⟨by have := skp_max t (i + 1); omega, skp_skp t _⟩
    have gk := g.1.le
    have ge := g.2.2.1
    simp only [Kd.pre] at ge
    have hk := (word_nil gk).1 h3
    obtain ⟨a', c1, c2, b⟩ := ref_binary t 0 (by omega) (i + 1) (by omega) _ h2
    have s := ref_sign t a' 0 0 0 (by omega) (by omega) (.inl ⟨rfl, by rw [c2]; unfold sgI; rw [if_neg (by omega)]⟩)
    rw [c2] at s
    clear h h1 h2 h3 h0 a5 a4 a3 a2 a1 b1 b2 b3 b4 hn g he hi
    unfold prsO
    simp only
    by_cases h64 : 64 < e.length
    · rw [if_pos h64]
      show Ret _ _ _ (· = .tup [.agg [.str [], .nils], .int .i64 0, .int .i64 2])
      refine ret_of_awp tab Tryd.func12 rfl rfl (Nat.le_of_ble_eq_true rfl) (fun w0 F0 => ?_)
      repeat' (first | refine stopA 4 tt ?_ | refine wG ?_ | refine rgX 10 11 [] ?_ | refine wR ?_ | refine wS ?_ ?_ <;> intro _ | refine finTG ?_)
      refine stopOut ?_
      refine awp_rename [(0, .d (.str t)), (2, .ptr 2 0), (3, .d (.int .i64 0)), (4, .d (.int .i64 0)), (5, .ptr 13 0)] [(2, .box fmT [.d (.str []), .d .nils]), (13, rdB t 0 0 0)] [(13, 600)] ⟨rfl, rfl, rfl, rfl, rfl, rfl⟩ ⟨rfl, rfl, trivial⟩ ?_
      repeat' (first | refine wG ?_ | refine wD [] n ?_ | refine wD [] w ?_ | refine wD [] b ?_ | refine wD [] s ?_ | refine rgX 10 11 [] ?_ | refine wR ?_ | refine wS ?_ ?_ <;> intro _ | refine finTG ?_)
      all_goals exact leT
    · rw [if_neg h64]
      show Ret _ _ _ (· = .tup [.agg [.str nm, ndsD e], .int .i64 0, .int .i64 0])
      refine ret_of_awp tab Tryd.func12 rfl rfl (Nat.le_of_ble_eq_true rfl) (fun w0 F0 => ?_)
      repeat' (first | refine stopA 4 tt ?_ | refine wG ?_ | refine rgX 10 11 [] ?_ | refine wR ?_ | refine wS ?_ ?_ <;> intro _ | refine finTG ?_)
      refine stopOut ?_
      refine awp_rename [(0, .d (.str t)), (2, .ptr 2 0), (3, .d (.int .i64 0)), (4, .d (.int .i64 0)), (5, .ptr 13 0)] [(2, .box fmT [.d (.str []), .d .nils]), (13, rdB t 0 0 0)] [(13, 600)] ⟨rfl, rfl, rfl, rfl, rfl, rfl⟩ ⟨rfl, rfl, trivial⟩ ?_
      repeat' (first | refine wG ?_ | refine wD [] n ?_ | refine wD [] w ?_ | refine wD [] b ?_ | refine wD [] s ?_ | refine rgX 10 11 [] ?_ | refine wR ?_ | refine wS ?_ ?_ <;> intro _ | refine finTG ?_)
      all_goals exact leT
end Go.Proofs.YtfnonogemgnlhaaDoor

/-
  The grammar as a function, for given texts. Conditions: none.
-/
namespace Go.Vw
def rcF (t : List UInt8) : Nat → Kd → Nat → Option (Pos (List Nd))
  | 0, _, _ => none
  | n + 1, .lev r, i => if r < 3 then (match rcF t n (.lev (r + 1)) i with
      | some (.ok (e, j)) => rcF t n (.bin r e) j
      | some (.error x) => some (.error x)
      | none => none)
    else if r = 3 then (match rcF t n .pri i with
      | some (.ok (e, j)) => rcF t n (.rai e) j
      | some (.error x) => some (.error x)
      | none => none)
    else none
  | n + 1, .bin r e, i => match opOf r (word t i) with
      | none => some (.ok (e, i))
      | some op => match rcF t n (.lev (r + 1)) (nxt t i) with
        | some (.ok (e', j)) => rcF t n (.bin r (((op, [], (0 : Int)) :: (e ++ e')).take 65)) j
        | some (.error x) => some (.error x)
        | none => none
  | n + 1, .rai e, i => if word t i = [94] then none else some (.ok (e, i))
  | n + 1, .pri, i => if word t i = [40] then none else some (atomP t i)
theorem rcF_ok {t : List UInt8} : ∀ (n : Nat) (k : Kd) (i : Nat) (o : Pos (List Nd)), rcF t n k i = some o → Rc t k i o
  | 0, _, _, _, h => by cases h
  | n + 1, .lev r, i, o, h => by
    simp only [rcF] at h
    split at h
    · rename_i hr
      split at h
      · rename_i e j h1; exact .levO hr (rcF_ok n _ _ _ h1) (rcF_ok n _ _ _ h)
      · rename_i x h1; cases h; exact .levE hr (rcF_ok n _ _ _ h1)
      · cases h
    · split at h
      · rename_i hr
        subst hr
        split at h
        · rename_i e j h1; exact .raiO (rcF_ok n _ _ _ h1) (rcF_ok n _ _ _ h)
        · rename_i x h1; cases h; exact .raiE (rcF_ok n _ _ _ h1)
        · cases h
      · cases h
  | n + 1, .bin r e, i, o, h => by
    simp only [rcF] at h
    split at h
    · rename_i h1; cases h; exact .bin0 h1
    · rename_i op h1
      split at h
      · rename_i e' j h2; exact .binO h1 (rcF_ok n _ _ _ h2) (rcF_ok n _ _ _ h)
      · rename_i x h2; cases h; exact .binE h1 (rcF_ok n _ _ _ h2)
      · cases h
  | n + 1, .rai e, i, o, h => by
    simp only [rcF] at h
    split at h
    · cases h
    · rename_i h1; cases h; exact .rai0 h1
  | n + 1, .pri, i, o, h => by
    simp only [rcF] at h
    split at h
    · cases h
    · rename_i h1; cases h; exact .atom h1
end Go.Vw

/-
  The law's check: its two examples. Small functions of the law. Conditions: not too many nodes.
-/
set_option maxHeartbeats 8000000
namespace Go.Proofs.YtfnonogemgnlhaaDoor
open Go.Vw
attribute [local irreducible] awp awpL awpR

abbrev exA : List UInt8 := [121, 32, 126, 32, 97, 42, 98, 32, 45, 32, 97, 58, 98]
abbrev exB : List UInt8 := [121, 32, 126, 32, 97, 32, 43, 32]
abbrev exT : Ft := .bi 6 (.bi 8 (.leaf (1, [97], 0)) (.leaf (1, [98], 0))) (.bi 7 (.leaf (1, [97], 0)) (.leaf (1, [98], 0)))
theorem exA_fml : Fml exA (.ok ([121], exT.flat)) := .done (i := 2) (j := 4) (k := 13) (by rfl) (by rfl) (rcF_ok 40 _ _ _ (by rfl)) (by rfl)
theorem exB_fml : Fml exB (.error (8, 3)) := .right (s := [121]) (i := 2) (j := 4) (by rfl) (by rfl) (rcF_ok 40 _ _ _ (by rfl))
theorem exT_ok : exT.ok := by simp [Ft.ok, leafOk]; decide
theorem law09_awake : Ret Tryd.prog 10 [] (· = .bool true) := by
  have p1 : Ret Tryd.prog 11 [.str exA] (· = .tup [.agg [.str [121], ndsD exT.flat], .int .i64 0, .int .i64 0]) := formula_Parse exA (by decide) _ exA_fml
  have p2 : Ret Tryd.prog 11 [.str exB] (· = .tup [.agg [.str [], .nils], .int .i64 8, .int .i64 3]) := formula_Parse exB (by decide) _ exB_fml
  have hv : vld [121] exT.flat = true := by
    unfold vld
    rw [cnt_built.2 ⟨exT, rfl, exT_ok⟩]
    decide
  have f : Ret Tryd.prog 15 [.agg [.str [121], ndsD exT.flat]] (· = .tup [.str [121, 32, 126, 32, 97, 32, 42, 32, 98, 32, 45, 32, 97, 58, 98], .int .i64 0]) := formula_FormatY [121] exT.flat (by decide) hv exT rfl exT_ok
  generalize exT.flat = e at *
  refine ret_of_awp tab Tryd.func10 rfl rfl (Nat.le_of_ble_eq_true rfl) (fun w0 F0 => ?_)
  repeat' (first | refine wG ?_ | refine wC p1 ?_ | refine wC p2 ?_ | refine wC f ?_ | refine wR ?_ | refine wS ?_ ?_ <;> intro _ | refine finG ?_)
  all_goals rfl
end Go.Proofs.YtfnonogemgnlhaaDoor

/-
  Nodes held against each other; formulas held against each other. Conditions: not too many nodes.
-/
set_option maxHeartbeats 8000000
namespace Go.Proofs.YtfnonogemgnlhaaDoor
open Go.Vw
attribute [local irreducible] awp awpL awpR

theorem node_same (a c : Int) (b : ByteArray) (w : World) : (Op.equalIn 10000 ndT (.agg #[.int .i64 a, .string b, .int .i64 c]) (.agg #[.int .i64 a, .string b, .int .i64 c])).run Tryd.prog w = .ok true w := by
  have t38 := tab _ _ (show T ndT = some _ from rfl)
  have t3 := tab _ _ (show T 3 = some _ from rfl)
  have t9 := tab _ _ (show T 9 = some _ from rfl)
  have hS : Tryd.prog.underlying ndT = some (.struct (Tryd.prog.fieldsOf ndT)) := by kernel_rfl
  rw [show (10000 : Nat) = (9998 + 1) + 1 from rfl, run_equalIn_agg w (9998 + 1) ndT _ _ hS (by kernel_rfl)]
  simp only [Program.fieldsOf, t38.und]
  simp [Op.eqFields, part, t3.runA, t9.runA, TypeDesc.many, run_equalIn_int _ _ _ _ _ _ _ t3.und, run_equalIn_string _ _ _ _ _ t9.und]
theorem node_val {F : Nat → Prop} {w : World} {a c : Int} {b : List UInt8} {v : Value} (h : DR F w (.agg [.int .i64 a, .str b, .int .i64 c]) v) : v = .agg #[.int .i64 a, .string ⟨b.toArray⟩, .int .i64 c] := by
  simp only [DR, DRA] at h
  obtain ⟨arr, e, n, ⟨v1, g1, _, h1⟩, ⟨v2, g2, _, h2⟩, ⟨v3, g3, _, h3⟩, _⟩ := h
  subst h1 h2 h3 e
  congr 1
  apply Array.ext
  · simpa using n
  · intro i hi1 hi2
    have : i = 0 ∨ i = 1 ∨ i = 2 := by simp at hi2; omega
    rcases this with q | q | q <;> subst q <;> simp_all [Array.getElem?_eq_some_iff]
theorem m_neqN {X : Ctx} {all : Array Oper} {s : St} {o : Oper} {x y : Operand} {t2 : TypeId} {a c : Int} {b : List UInt8} (hop : o.op = .binOp .neq ndT x y t2) (hx : s.opd x = .d (.agg [.int .i64 a, .str b, .int .i64 c])) (hy : s.opd y = .d (.agg [.int .i64 a, .str b, .int .i64 c])) (hg : gd all s o = some true) (hP : X.P = Tryd.prog) : M1 X all s o (.d (.bool false)) := by
  intro io F ac w ht hb hF K Q hK
  have hvx := operands_of ht x (by rw [hop]; simp [Op.operands])
  have hvy := operands_of ht y (by rw [hop]; simp [Op.operands])
  rw [hx] at hvx
  rw [hy] at hvy
  simp only [VR] at hvx hvy
  have e1 := node_val hvx
  have e2 := node_val hvy
  have hr : (execOp ac.eval o).run X.P w = .ok (.value (.bool false)) w := by
    rw [hP]
    have hq : Tryd.prog.eqGuardType Tryd.prog.depth ndT = false := by kernel_rfl
    simp only [execOp, hop, e1, e2, Sem.run_bind, run_eqGuard_agg w _ _ _ _ _ _ hq, Result.andThen_ok, run_neq_struct, node_same]
    rfl
  exact opWp_value (gd_sound ht hg) hr (hK F w _ (Go.RowKit.Below.refl _ _) (fun _ h => h) (fun _ h => .inl h) (by simp only [VR, DR]))
theorem stepNeqN {X : Ctx} {all : Array Oper} {Q : Exit → St → Prop} {s : St} {o : Oper} {rest : List Oper} {x y : Operand} {t2 : TypeId} {d : Tmp} {a c : Int} {b : List UInt8} (hop : o.op = .binOp .neq ndT x y t2) (hdst : o.dst = some d) (hx : s.opd x = .d (.agg [.int .i64 a, .str b, .int .i64 c])) (hy : s.opd y = .d (.agg [.int .i64 a, .str b, .int .i64 c])) (hg : gd all s o = some true) (hd : dstOk X.N (some d) = true) (hP : X.P = Tryd.prog) (k : awpL X all rest Q (s.put (some d) (.d (.bool false)))) : awpL X all (o :: rest) Q s := stepM hdst hd (m_neqN hop hx hy hg hP) k
theorem ref09_Same (s : List UInt8) (e : List Nd) (hl : e.length ≤ 100000) : Ret Tryd.prog 13 [.agg [.str s, ndsD e], .agg [.str s, ndsD e]] (· = .bool true) := by
  refine ret_of_awp tab Tryd.func13 rfl rfl (Nat.le_of_ble_eq_true rfl) (fun w0 F0 => ?_)
  repeat' (first | refine wG ?_ | refine rg 6 10 ?_ | refine wR ?_ | refine wS ?_ ?_ <;> intro _ | refine finG ?_)
  refine awp_loop1 (fun (i : Nat) => ([(2, .ptr 2 0), (3, .ptr 3 0), (5, .d (.int .i64 i))], [(2, .box fmT [.d (.str s), .d (ndsD e)]), (3, .box fmT [.d (.str s), .d (ndsD e)])])) (fun i => i ≤ e.length) (fun i => e.length - i) 0 (by omega) ⟨rfl, rfl, rfl, rfl⟩ ⟨rfl, rfl, trivial⟩ (fun i hi => ?_)
  by_cases g : i < e.length
  · repeat' (first | refine stepNeqN rfl rfl rfl rfl rfl rfl rfl ?_ | refine wG ?_ | refine rg 6 10 ?_ | refine wR ?_ | refine wS ?_ ?_ <;> intro _ | refine finG ?_)
    exact ⟨i + 1, by omega, by omega, ⟨rfl, rfl, iv (by omega), rfl⟩, rfl, rfl, trivial⟩
  · repeat' (first | refine wG ?_ | refine rg 6 10 ?_ | refine wR ?_ | refine wS ?_ ?_ <;> intro _ | refine finG ?_)
    rfl
end Go.Proofs.YtfnonogemgnlhaaDoor

/-
  Both parsers agree; the law on parsing. Conditions: none.
-/
set_option maxHeartbeats 8000000
namespace Go.Proofs.YtfnonogemgnlhaaDoor
open Go.Vw
attribute [local irreducible] awp awpL awpR

theorem fm_both (t : List UInt8) : ∃ o, Fm0 t o ∧ ∃ o', Fml t o' ∧ prsO o' = prsO o := by
  cases hn : nameP t (skp t 0) with
  | error x => exact ⟨_, .name hn, _, .name hn, rfl⟩
  | ok p =>
    obtain ⟨s, i⟩ := p
    cases hm : mustP t 126 i with
    | error x => exact ⟨_, .tilde hn hm, _, .tilde hn hm, rfl⟩
    | ok j =>
      obtain ⟨o, ho⟩ := Rs.all (t := t) (k := .lev 0) (i := j) (Nat.zero_le 3) (mustP_ok hm).1
      obtain ⟨o', ho', sm⟩ := ho.sim (.lev 0) rfl
      cases o with
      | error x =>
        cases o' with
        | error y =>
          have e : y = x := sm
          subst e
          exact ⟨_, .right hn hm ho, _, .right hn hm ho', rfl⟩
        | ok q => exact sm.elim
      | ok p =>
        obtain ⟨e, k⟩ := p
        cases o' with
        | error y => exact sm.elim
        | ok q =>
          obtain ⟨e', k'⟩ := q
          obtain ⟨rfl, sl⟩ : k' = k ∧ SimL e e' := sm
          by_cases hw : word t k' = []
          · refine ⟨_, .done hn hm ho hw, _, .done hn hm ho' hw, ?_⟩
            rcases sl with rfl | ⟨s1, s2⟩
            · rfl
            · unfold prsO
              simp only
              rw [if_pos s1, if_pos (by omega)]
          · exact ⟨_, .rest hn hm ho hw, _, .rest hn hm ho' hw, rfl⟩
end Go.Proofs.YtfnonogemgnlhaaDoor
