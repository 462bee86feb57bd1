/-
  A statement of the seat: what its contract is, and the claim. Conditions: as each says.
-/
import Derived.Test.YtlphlodailailaaGreatY22
import Derived.Test.YtlphlodailailaaGreatA10
set_option linter.unusedVariables false
set_option linter.unusedSimpArgs false
set_option maxHeartbeats 8000000
namespace Go.Proofs.YtlphlodailailaaGreat
open Go.Vw
attribute [local irreducible] awp awpL awpR

theorem ref05_tame (P : List R3) (hP : P.length ≤ 100) (kP : ∀ r ∈ P, RatOk r 5000000) (M : Nat) (hs : ∀ x ∈ trimP (P.map rv), okQ 2000000 x) (hs2 : ∀ x ∈ derP (P.map rv), okQ 2000000 x) (hJ : JS (smallP (trimP (P.map rv))) (smallP (derP (P.map rv))) M) : Ret Tryz.prog 70 [rsD P] (· = qssD (chainL smallP (P.length + 1) (smallP (trimP (P.map rv))) (smallP (derP (P.map rv))))) := by
  have t1 := ref05_Trim P (by omega) (fun r hr => (kP r hr).up (by decide))
  have t2 := ref05_Derivative P (by omega) kP
  have f1 := ref03_FromIntW (-1) (by decide) (by decide)
  have q1 := trim_len (P.map rv)
  have q2 : (derP (P.map rv)).length ≤ (derC (P.map rv)).length := trim_len (derC (P.map rv))
  rw [derC_len] at q2
  rw [List.length_map] at q1 q2
  obtain ⟨n, hn0⟩ : ∃ n, P.length + 1 = n := ⟨_, rfl⟩
  rw [hn0]
  have o1 := ref05_one (trimP (P.map rv)) (by omega) hs (tr_trim _)
  have o2 := ref05_one (derP (P.map rv)) (by omega) hs2 (tr_trim _)
  have w1 : (smallP (trimP (P.map rv))).length = (trimP (P.map rv)).length := len_smul _ _
  have w2 : (smallP (derP (P.map rv))).length = (derP (P.map rv)).length := len_smul _ _
  clear hs hs2
  generalize smallP (trimP (P.map rv)) = a0 at *
  generalize smallP (derP (P.map rv)) = b0 at *
  generalize trimP (P.map rv) = a00 at *
  generalize derP (P.map rv) = b00 at *
  obtain ⟨R, hR⟩ : ∃ R, chainL smallP n a0 b0 = R := ⟨_, rfl⟩
  rw [hR]
  clear kP
  refine ret_of_awp tab Tryz.func70 rfl rfl (Nat.le_of_ble_eq_true rfl) (fun w0 F0 => ?_)
  repeat' (first
    | (show awpL _ _ _ _ _; first | refine goL ?_ | refine cl 44 tt rfl rfl rfl (hr := t1) (k := ?_) | refine cl 66 tt rfl rfl rfl (hr := t2) (k := ?_) | refine cl 111 tt rfl rfl rfl (hr := o1) (k := ?_) | refine cl 111 tt rfl rfl rfl (hr := o2) (k := ?_) | (refine gdLG ?_ ?_ <;> intro _ <;> try (exfalso; omega)))
    | (show awp _ _ _ _; first | refine goA ?_ | (refine cdG ?_ ?_ <;> intro _ <;> try (exfalso; omega)))
    | (show andThen _ _ _ _; refine goN ?_)
    | (show inBlock _ _ _ _; refine goB ?_)
    | (show retPost _ _ _ _ _; refine finG ?_))
  refine awp_adopt 5 500 23 1 eQ [] rfl ?_
  refine awp_loop1 (fun (x : List (List Rat) × List Rat × List Rat × Nat) => ([(3, .d (qsD x.2.1)), (4, .d (qsD x.2.2.1)), (5, .own 500 0 x.1.length 23 1)], [(500, .data 23 1 eQ [] x.1)])) (fun x => (∃ M, JS x.2.1 x.2.2.1 M) ∧ x.2.2.1.length + 1 ≤ x.2.2.2 ∧ x.1 ++ chainL smallP x.2.2.2 x.2.1 x.2.2.1 = R ∧ x.1.length + x.2.2.2 ≤ 1000 ∧ x.2.1.length ≤ 100 ∧ x.2.2.1.length ≤ 100) (fun x => x.2.2.2) ([], a0, b0, n) ⟨⟨M, hJ⟩, by show b0.length + 1 ≤ n; omega, hR, by show 0 + n ≤ 1000; omega, by show a0.length ≤ 100; omega, by show b0.length ≤ 100; omega⟩ ⟨rfl, rfl, rfl, rfl⟩ ⟨rfl, trivial⟩ (fun x hx => ?_)
  obtain ⟨acc, a, b, k⟩ := x
  obtain ⟨⟨M', i1⟩, i2, i3, i4, i5, i6⟩ := hx
  dsimp only at i1 i2 i3 i4 i5 i6 ⊢
  obtain ⟨k, rfl⟩ : ∃ j, k = j + 1 := ⟨k - 1, by omega⟩
  rw [chainL] at i3
  by_cases ha : a = []
  · rw [if_pos ha, List.append_nil] at i3
    have h0 : a.length = 0 := by rw [ha]; rfl
    rw [← i3]
    clear hJ t1 t2 o1 o2
    repeat' (first
      | (show awpL _ _ _ _ _; first | refine goL ?_ | (refine gdLG ?_ ?_ <;> intro _ <;> try (exfalso; omega)))
      | (show awp _ _ _ _; first | refine goA ?_ | (refine cdG ?_ ?_ <;> intro _ <;> try (exfalso; omega)))
      | (show andThen _ _ _ _; refine goN ?_)
      | (show inBlock _ _ _ _; refine goB ?_)
      | (show retPost _ _ _ _ _; refine finG ?_))
    rfl
  · rw [if_neg ha] at i3
    have h0 := ne_len ha
    by_cases hb : b = []
    · rw [if_pos hb] at i3
      have h1 : b.length = 0 := by rw [hb]; rfl
      rw [← i3]
      clear hJ t1 t2 o1 o2
      repeat' (first
        | (show awpL _ _ _ _ _; first | refine goL ?_ | (refine gdLG ?_ ?_ <;> intro _ <;> try (exfalso; omega)))
        | (show awp _ _ _ _; first | refine goA ?_ | (refine cdG ?_ ?_ <;> intro _ <;> try (exfalso; omega)))
        | (show andThen _ _ _ _; refine goN ?_)
        | (show inBlock _ _ _ _; refine goB ?_)
        | (show retPost _ _ _ _ _; refine finG ?_))
      rfl
    · rw [if_neg hb] at i3
      have h1 := ne_len hb
      obtain ⟨g1, _, g3, g4, g5⟩ := i1.rem ha hb
      have tr := tr_rem i1.ta i1.tb hb
      have hl := rem_len i1.ta i1.tb hb
      have nl : (negC (remP a b)).length = (remP a b).length := len_smul _ _
      have d1 := ref05_DivQ a b i1.ta i1.tb hb i5 i6 i1.ha i1.hb g3
      have d2 := ref05_negQ (remP a b) tr (by omega) (fun x hx => (g1.okL x hx).mono (by omega))
      have nx := i1.next chOk_small ha hb
      have d3 := ref05_one (negC (remP a b)) (by omega) (fun x hx => (g1.neg.okL x hx).mono (by omega)) (tr_neg tr)
      have w3 : (smallP (negC (remP a b))).length = (negC (remP a b)).length := len_smul _ _
      rw [show (divP a b).2 = remP a b from rfl] at d1
      generalize (divP a b).1 = z at *
      generalize smallP (negC (remP a b)) = y at *
      generalize negC (remP a b) = yy at *
      generalize remP a b = r at *
      generalize ((-1 : Int) : Rat) = u at *
      clear hJ t1 t2 o1 o2 g1 g3 g4 g5
      repeat' (first
        | (show awpL _ _ _ _ _; first | refine goL ?_ | refine cl 62 tt rfl rfl rfl (hr := d1) (k := ?_) | refine cl 31 tt rfl rfl rfl (hr := f1) (k := ?_) | refine cl 67 tt rfl rfl rfl (hr := d2) (k := ?_) | refine cl 111 tt rfl rfl rfl (hr := d3) (k := ?_) | (refine gdLG ?_ ?_ <;> intro _ <;> try (exfalso; omega)))
        | (show awp _ _ _ _; first | refine goA ?_ | (refine cdG ?_ ?_ <;> intro _ <;> try (exfalso; omega)))
        | (show andThen _ _ _ _; refine goN ?_)
        | (show inBlock _ _ _ _; refine goB ?_)
        | (show retPost _ _ _ _ _; refine finG ?_))
      exact ⟨(acc ++ [a], b, y, k), ⟨nx, by show y.length + 1 ≤ k; omega, by rw [← i3]; simp only [List.append_assoc, List.singleton_append], by show (acc ++ [a]).length + k ≤ 1000; rw [List.length_append, List.length_singleton]; omega, i6, by show y.length ≤ 100; omega⟩, by show k < k + 1; omega, ⟨rfl, rfl, ownEq (by rw [List.length_append]), rfl⟩, rfl, trivial⟩
end Go.Proofs.YtlphlodailailaaGreat
