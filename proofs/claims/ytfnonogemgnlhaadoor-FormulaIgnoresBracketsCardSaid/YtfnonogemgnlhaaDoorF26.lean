/-
  The law on brackets. Conditions: none.
-/
import Derived.Test.YtfnonogemgnlhaaDoorF25
import Derived.Test.YtfnonogemgnlhaaDoorA08
set_option linter.unusedVariables false
set_option linter.unusedSimpArgs false
set_option maxHeartbeats 8000000
namespace Go.Proofs.YtfnonogemgnlhaaDoor
open Go.Vw
attribute [local irreducible] awp awpL awpR

theorem u8_wf {z : Int} (h : (Lit.int .u8 z).wf = true) : 0 ≤ z ∧ z < 256 := by
  simp [Lit.wf, IntKind.min, IntKind.max, IntKind.signed, IntKind.bits] at h
  omega
theorem law09_Brackets (s : List UInt8) (e : List Nd) (k : Int) (hs : s.length ≤ maxLen) (hl : e.length ≤ maxLen) (hk : 0 ≤ k) (hk' : k < 256) : Ret Tryd.prog 7 [fmD s e, .int .u8 k] (· = .bool true) := by
  have aw := law09_awake
  have l1 := law09_light s e hs hl
  by_cases c1 : lightF s e = true
  · have n1 := lightF_len c1
    rw [c1] at l1
    have v1 := ref_Valid s e (by omega)
    by_cases c3 : vld s e = true
    · rw [c3] at v1
      obtain ⟨i1, b1, m1⟩ := vld_of c3
      obtain ⟨T, hT, hok⟩ := b1
      have f := formula_FormatY s e (by omega) c3 T hT hok
      obtain ⟨n, hn⟩ : ∃ n : Nat, k % 20 = n := ⟨(k % 20).toNat, by omega⟩
      have hn20 : n < 20 := by omega
      have hsl := isName_len i1
      have hpl := pr_len T hok
      rw [hT] at hpl
      have hbl := fun i => brN_len i T.pr
      have p := parse_ok (fmOk_br i1 hok n) (by rw [hT]; exact m1) (by simp only [List.length_append, List.length_cons, List.length_nil, hbl]; omega)
      rw [hT] at p
      have sm := ref09_Same s e (by omega)
      have hd : ((s ++ [32, 126, 32] ++ T.pr).drop (s.length + 3)) = T.pr := by
        rw [show s.length + 3 = (s ++ [32, 126, 32]).length by simp]; simp
      have hW : (s ++ [32, 126, 32] ++ T.pr).length = s.length + 3 + T.pr.length := by simp; omega
      obtain ⟨R, hR⟩ : ∃ R : Nat → List UInt8, ∀ i, R i = brN i T.pr := ⟨fun i => brN i T.pr, fun _ => rfl⟩
      have R0 : R 0 = T.pr := by rw [hR]; rfl
      have RS : ∀ i, R (i + 1) = ([40, 32] : List UInt8) ++ R i ++ [32, 41, 32, 32] := fun i => by rw [hR, hR]; simp [brN]
      have RL : ∀ i, (R i).length = T.pr.length + 6 * i := fun i => by rw [hR]; exact brN_len i T.pr
      rw [← hR] at p
      clear hbl hR
      generalize hWe : s ++ [32, 126, 32] ++ T.pr = W at *
      generalize T.pr = q at *
      clear hT hok
      refine ret_of_awp tab Tryd.func7 rfl rfl (Nat.le_of_ble_eq_true rfl) (fun w0 F0 => ?_)
      repeat' (first | refine wG ?_ | refine wC l1 ?_ | refine wC v1 ?_ | refine wC f ?_ | refine wR ?_ | refine wS ?_ ?_ <;> intro _ | refine finG ?_)
      refine awp_loop1 (fun (i : Nat) => ([(1, .d (.int .u8 k)), (2, .ptr 2 0), (7, .d (.str (R i))), (8, .d (.int .i64 i))], [(2, .box fmT [.d (.str s), .d (ndsD e)])])) (fun i => i ≤ n) (fun i => n - i) 0 (Nat.zero_le _) ⟨rfl, rfl, (show V.d (D.str (List.drop (s.length + 3) W)) = _ by rw [hd, R0]), rfl, rfl⟩ ⟨rfl, trivial⟩ (fun i hi => ?_)
      have rl := RL i
      by_cases g : i < n
      · have rs := RS i
        clear p sm aw f l1 v1 RS RL
        repeat' (first | refine wG ?_ | refine wR ?_ | refine wS ?_ ?_ <;> intro _ | refine finG ?_)
        exact ⟨i + 1, by omega, by omega, ⟨rfl, rfl, (by rw [rs]; rfl), iv (by omega), rfl⟩, rfl, trivial⟩
      · obtain rfl : i = n := by omega
        clear l1 v1 RS RL f
        repeat' (first | refine wG ?_ | refine wC aw ?_ | refine wC p ?_ | refine wC sm ?_ | refine wR ?_ | refine wS ?_ ?_ <;> intro _ | refine finG ?_)
        all_goals rfl
    · have c3 : vld s e = false := by simpa using c3
      rw [c3] at v1
      refine ret_of_awp tab Tryd.func7 rfl rfl (Nat.le_of_ble_eq_true rfl) (fun w0 F0 => ?_)
      repeat' (first | refine wG ?_ | refine wC l1 ?_ | refine wC v1 ?_ | refine wC aw ?_ | refine wR ?_ | refine wS ?_ ?_ <;> intro _ | refine finG ?_)
      all_goals rfl
  · have c1 : lightF s e = false := by simpa using c1
    rw [c1] at l1
    refine ret_of_awp tab Tryd.func7 rfl rfl (Nat.le_of_ble_eq_true rfl) (fun w0 F0 => ?_)
    repeat' (first | refine wG ?_ | refine wC l1 ?_ | refine wC aw ?_ | refine wR ?_ | refine wS ?_ ?_ <;> intro _ | refine finG ?_)
    all_goals rfl
end Go.Proofs.YtfnonogemgnlhaaDoor
