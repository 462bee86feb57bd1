/-
  Contracts of functions of the program, and the layer that they are walked with: Z17 Z21. Conditions: as each says.
-/
import Derived.Test.YtejigedigmagdaaGreatA11
set_option linter.unnecessarySimpa false
set_option linter.unusedVariables false
set_option linter.unusedSimpArgs false
set_option maxHeartbeats 8000000
namespace Go.Proofs.YtejigedigmagdaaGreat
open Go.Vw
attribute [local irreducible] awp awpL awpR

theorem huber_w : Ret Tryz.prog 12 [qsD [0, 1, 10], qD 1] (· = .tup [iQ (1, 1), .int .i64 0]) := by
  obtain ⟨lo, hi, h⟩ := HubAt.ex (x := [0, 1, 10]) (k := 1) (by decide) (by simp)
  obtain ⟨e1, e2⟩ := (h.spec (by decide)).unique hub_w
  subst e1 e2
  exact mroots_HuberOk [0, 1, 10] 1 (by decide) (fun v hv => (sm2_all (l := [0, 1, 10]) (by decide +kernel) v hv).mono (by decide)) (okQ_one.mono (by decide)) (by decide) (by decide +kernel) h
theorem law22_awake : Ret Tryz.prog 11 [] (· = .bool true) := by
  have i1 := law22_ints [-3, 3] (by decide) (by decide)
  have i2 := law22_ints [0, 1, 10] (by decide) (by decide)
  have f1 := ref03_FromIntW 1 (by decide) (by decide)
  have f2 := ref03_FromIntW 2 (by decide) (by decide)
  have f3 := ref03_FromIntW (-2) (by decide) (by decide)
  have t1 := tukey_w
  have h1 := huber_w
  have o2 : okI 10000000 ((-2 : Rat), (2 : Rat)) := ⟨(sm2_ok (by decide +kernel)).mono (by decide), (sm2_ok (by decide +kernel)).mono (by decide)⟩
  have s1 := ref04_SameI (-2, 2) (-2, 2) o2 o2
  have o1 : okI 10000000 ((1 : Rat), (1 : Rat)) := ⟨okQ_one.mono (by decide), okQ_one.mono (by decide)⟩
  have s2 := ref04_SameI (1, 1) (1, 1) o1 o1
  rw [decide_eq_true rfl] at s1 s2
  rw [show ([-3, 3] : List Int).map (fun (v : Int) => (v : Rat)) = [-3, 3] from rfl] at i1
  rw [show ([0, 1, 10] : List Int).map (fun (v : Int) => (v : Rat)) = [0, 1, 10] from rfl] at i2
  rw [show ((1 : Int) : Rat) = 1 from rfl] at f1
  rw [show ((2 : Int) : Rat) = 2 from rfl] at f2
  rw [show ((-2 : Int) : Rat) = -2 from rfl] at f3
  generalize hA : ([-3, 3] : List Rat) = A at *
  generalize hB : ([0, 1, 10] : List Rat) = B at *
  have ep : ([(-3, -3), (3, 3)] : List I2).length = 2 := rfl
  generalize ([(-3, -3), (3, 3)] : List I2) = P at *
  generalize (1 : Rat) = q1 at *
  generalize (2 : Rat) = q2 at *
  generalize (-2 : Rat) = q3 at *
  clear o1 o2 hA hB
  refine ret_of_awp tab Tryz.func11 rfl rfl (Nat.le_of_ble_eq_true rfl) (fun w0 F0 => ?_)
  repeat' (first | refine wG ?_ | refine wC i1 ?_ | refine wC i2 ?_ | refine wC f1 ?_ | refine wC f2 ?_ | refine wC f3 ?_ | refine wC t1 ?_ | refine wC h1 ?_ | refine wC s1 ?_ | refine wC s2 ?_ | refine rg 4 33 ?_ | refine wS ?_ ?_ <;> intro _ | refine finG ?_)
  rfl
end Go.Proofs.YtejigedigmagdaaGreat

/-
  MrootsOfHuber: both find the same interval. Conditions: none beyond what lists can be.
-/
set_option maxHeartbeats 8000000
namespace Go.Proofs.YtejigedigmagdaaGreat
open Go.Vw
attribute [local irreducible] awp awpL awpR

def smallR (r : R3) : Bool := decide (r.2.1.length ≤ 2) && decide (r.2.2.length ≤ 2)
theorem smallR_ok {r : R3} (h : RawR r) (hl : smallR r = true) : RatOk r 9 := h.light (by
  unfold smallR at hl
  unfold lightR
  rw [Bool.and_eq_true, decide_eq_true_eq, decide_eq_true_eq] at hl ⊢
  omega)
theorem find_predR {α : Type} (z : α) (l : List α) (P : α → Bool) : (l.any P = true ∧ ∃ j, j < l.length ∧ P (l.getD j z) = true ∧ ∀ i, i < j → P (l.getD i z) = false) ∨ (l.any P = false ∧ ∀ i, i < l.length → P (l.getD i z) = false) := by
  induction l with
  | nil => exact .inr ⟨rfl, fun i h => absurd h (Nat.not_lt_zero i)⟩
  | cons a l ih =>
    cases ha : P a with
    | true => exact .inl ⟨by rw [List.any_cons, ha]; rfl, 0, by simp, ha, fun i h => absurd h (Nat.not_lt_zero i)⟩
    | false =>
      rcases ih with ⟨h1, j, h2, h3, h4⟩ | ⟨h1, h2⟩
      · exact .inl ⟨by rw [List.any_cons, ha, h1]; rfl, j + 1, by simp; exact h2, h3, fun i hi => by
          cases i with
          | zero => exact ha
          | succ i => exact h4 i (by omega)⟩
      · exact .inr ⟨by rw [List.any_cons, ha, h1]; rfl, fun i hi => by
          cases i with
          | zero => exact ha
          | succ i => exact h2 i (by simp at hi; omega)⟩
theorem law22_small (r : R3) (h : RawR r) : Ret Tryz.prog 10 [rD r] (· = .bool (smallR r)) := by
  have h1 := h.lm
  have h2 := h.ld
  unfold smallR
  by_cases c1 : r.2.1.length ≤ 2
  · rw [decide_eq_true c1, Bool.true_and]
    clear h
    refine ret_of_awp tab Tryz.func10 rfl rfl (Nat.le_of_ble_eq_true rfl) (fun w0 F0 => ?_)
    repeat' (first | refine wG ?_ | refine wS ?_ ?_ <;> intro _ | refine finG ?_)
    all_goals (refine congrArg D.bool (decide_eq_decide.2 ?_); omega)
  · rw [decide_eq_false c1, Bool.false_and]
    clear h
    refine ret_of_awp tab Tryz.func10 rfl rfl (Nat.le_of_ble_eq_true rfl) (fun w0 F0 => ?_)
    repeat' (first | refine wG ?_ | refine wS ?_ ?_ <;> intro _ | refine finG ?_)
    all_goals rfl
theorem law22_light (X : List R3) (h : ∀ r ∈ X, RawR r) (hl : X.length ≤ 9223372036854775807) : Ret Tryz.prog 9 [rsD X] (· = .bool (decide (X.length ≤ 6) && X.all smallR)) := by
  by_cases c : X.length ≤ 6
  · rw [decide_eq_true c, Bool.true_and]
    have sm : ∀ i, i < X.length → Ret Tryz.prog 10 [rD (X.getD i r0)] (· = .bool (smallR (X.getD i r0))) := fun i hi => law22_small _ (h _ (by
      rw [List.getD_eq_getElem?_getD, List.getElem?_eq_getElem hi]; exact List.getElem_mem hi))
    clear h
    rcases find_predR r0 X (fun r => !smallR r) with ⟨e0, j, hj, p1, p2⟩ | ⟨e0, p2⟩
    · have ea : X.all smallR = false := by rw [List.all_eq_not_any_not, e0]; rfl
      rw [ea]
      clear e0 ea
      refine ret_of_awp tab Tryz.func9 rfl rfl (Nat.le_of_ble_eq_true rfl) (fun w0 F0 => ?_)
      repeat' (first | refine wG ?_ | refine wS ?_ ?_ <;> intro _ | refine finG ?_)
      refine awp_loop1 (fun (i : Nat) => ([(0, .d (rsD X)), (3, .d (.int .i64 i))], [])) (fun i => i ≤ j) (fun i => X.length - i) 0 (by omega) ⟨rfl, rfl, rfl⟩ trivial (fun i hi => ?_)
      have s := sm i (by omega)
      by_cases h3 : i < j
      · have q : smallR (X.getD i r0) = true := by have := p2 i h3; simpa using this
        rw [q] at s
        clear p1 p2 sm q
        repeat' (first | refine wG ?_ | refine wC s ?_ | refine wS ?_ ?_ <;> intro _ | refine finG ?_)
        exact ⟨i + 1, by omega, by omega, ⟨rfl, iv (by omega), rfl⟩, trivial⟩
      · have e : i = j := by omega
        subst e
        have q : smallR (X.getD i r0) = false := by simpa using p1
        rw [q] at s
        clear p1 p2 sm q
        repeat' (first | refine wG ?_ | refine wC s ?_ | refine wS ?_ ?_ <;> intro _ | refine finG ?_)
        rfl
    · have ea : X.all smallR = true := by rw [List.all_eq_not_any_not, e0]; rfl
      rw [ea]
      clear e0 ea
      refine ret_of_awp tab Tryz.func9 rfl rfl (Nat.le_of_ble_eq_true rfl) (fun w0 F0 => ?_)
      repeat' (first | refine wG ?_ | refine wS ?_ ?_ <;> intro _ | refine finG ?_)
      refine awp_loop1 (fun (i : Nat) => ([(0, .d (rsD X)), (3, .d (.int .i64 i))], [])) (fun i => i ≤ X.length) (fun i => X.length - i) 0 (by omega) ⟨rfl, rfl, rfl⟩ trivial (fun i hi => ?_)
      by_cases h3 : i < X.length
      · have s := sm i h3
        have q : smallR (X.getD i r0) = true := by have := p2 i h3; simpa using this
        rw [q] at s
        clear p2 sm q
        repeat' (first | refine wG ?_ | refine wC s ?_ | refine wS ?_ ?_ <;> intro _ | refine finG ?_)
        exact ⟨i + 1, by omega, by omega, ⟨rfl, iv (by omega), rfl⟩, trivial⟩
      · have e : i = X.length := by omega
        subst e
        clear p2 sm
        repeat' (first | refine wG ?_ | refine wS ?_ ?_ <;> intro _ | refine finG ?_)
        rfl
  · rw [decide_eq_false c, Bool.false_and]
    clear h
    refine ret_of_awp tab Tryz.func9 rfl rfl (Nat.le_of_ble_eq_true rfl) (fun w0 F0 => ?_)
    repeat' (first | refine wG ?_ | refine wS ?_ ?_ <;> intro _ | refine finG ?_)
    rfl
theorem law22_OfHuber (X : List R3) (K : R3) (hX : ∀ r ∈ X, RawR r) (hK : RawR K) (hl : X.length ≤ 9223372036854775807) : Ret Tryz.prog 3 [rsD X, rD K] (· = .bool true) := by
  have aw := law22_awake
  have li := law22_light X hX hl
  have sm := law22_small K hK
  cases hL : (decide (X.length ≤ 6) && X.all smallR) with
  | false =>
    rw [hL] at li
    clear sm hX hK
    refine ret_of_awp tab Tryz.func3 rfl rfl (Nat.le_of_ble_eq_true rfl) (fun w0 F0 => ?_)
    repeat' (first | refine wG ?_ | refine wC li ?_ | refine wC aw ?_ | refine wS ?_ ?_ <;> intro _ | refine finG ?_)
    all_goals rfl
  | true =>
    rw [hL] at li
    cases hS : smallR K with
    | false =>
      rw [hS] at sm
      clear hX hK
      refine ret_of_awp tab Tryz.func3 rfl rfl (Nat.le_of_ble_eq_true rfl) (fun w0 F0 => ?_)
      repeat' (first | refine wG ?_ | refine wC li ?_ | refine wC sm ?_ | refine wC aw ?_ | refine wS ?_ ?_ <;> intro _ | refine finG ?_)
      all_goals rfl
    | true =>
      rw [hS] at sm
      rw [Bool.and_eq_true, decide_eq_true_eq, List.all_eq_true] at hL
      obtain ⟨l6, hs⟩ := hL
      have oX : ∀ r ∈ X, RatOk r 100 := fun r hr => (smallR_ok (hX r hr) (hs r hr)).up (by decide)
      have oK : RatOk K 100 := (smallR_ok hK hS).up (by decide)
      by_cases he : chkErr (X.map rv) (rv K) = 0
      · have k0 : 0 < rv K ∧ X.map rv ≠ [] := by
          unfold chkErr at he
          by_cases q0 : (X.map rv).length = 0
          · rw [if_pos q0] at he; exact absurd he (by decide)
          · rw [if_neg q0] at he
            by_cases q1 : 64 < (X.map rv).length
            · rw [if_pos q1] at he; exact absurd he (by decide)
            · rw [if_neg q1] at he
              by_cases q2 : rv K ≤ 0
              · rw [if_pos q2] at he; exact absurd he (by decide)
              · exact ⟨Rat.not_le.1 q2, fun e => q0 (by rw [e]; rfl)⟩
        obtain ⟨lo, hi, at_⟩ := HubAt.ex (x := X.map rv) k0.1 k0.2
        have hx : ∀ v ∈ X.map rv, okQ 100 v := mapR_ok oX
        have ok := okQ_rv oK (by decide)
        have l6' : (X.map rv).length ≤ 6 := by rw [List.length_map]; exact l6
        have a := mroots_HuberOkR X K (X.map rv) (rv K) rfl rfl oX oK l6' hx ok k0.1 he at_
        have b := ref22_HuberOkR X K (X.map rv) (rv K) rfl rfl oX oK l6' hx ok k0.1 he at_
        have oI := HubAt.ok l6' hx ok at_
        have s := ref04_SameI (lo, hi) (lo, hi) ⟨oI.1.mono (by decide), oI.2.mono (by decide)⟩ ⟨oI.1.mono (by decide), oI.2.mono (by decide)⟩
        rw [decide_eq_true rfl] at s
        generalize ((lo, hi) : I2) = i at *
        clear at_ oI hx ok he k0 oX hs hX hK
        refine ret_of_awp tab Tryz.func3 rfl rfl (Nat.le_of_ble_eq_true rfl) (fun w0 F0 => ?_)
        repeat' (first | refine wG ?_ | refine wC li ?_ | refine wC sm ?_ | refine wC a ?_ | refine wC b ?_ | refine wC aw ?_ | refine wC s ?_ | refine wS ?_ ?_ <;> intro _ | refine finG ?_)
        all_goals first | rfl | exact congrArg D.bool (decide_eq_true rfl)
      · have a := mroots_HuberErrR X K oK he
        have b := ref22_HuberErrR X K oK he
        have o0 : okR 1000000000000 r0 := ⟨by decide, by decide⟩
        have s := ref04_Same r0 r0 r0 r0 o0 o0 o0 o0
        rw [decide_eq_true rfl, Bool.true_and] at s
        generalize chkErr (X.map rv) (rv K) = er at *
        clear oX hs hX hK
        refine ret_of_awp tab Tryz.func3 rfl rfl (Nat.le_of_ble_eq_true rfl) (fun w0 F0 => ?_)
        repeat' (first | refine wG ?_ | refine wC li ?_ | refine wC sm ?_ | refine wC a ?_ | refine wC b ?_ | refine wC aw ?_ | refine wC s ?_ | refine wS ?_ ?_ <;> intro _ | refine finG ?_)
        all_goals first | rfl | exact congrArg D.bool (decide_eq_true rfl)
end Go.Proofs.YtejigedigmagdaaGreat
