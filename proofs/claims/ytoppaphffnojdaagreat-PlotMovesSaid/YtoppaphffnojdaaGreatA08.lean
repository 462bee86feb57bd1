/-
  Contracts of functions of the program, and the layer that they are walked with: W15 W16 W17 W18. Conditions: as each says.
-/
import Derived.Test.YtoppaphffnojdaaGreatA07
set_option linter.unusedVariables false
set_option linter.unusedSimpArgs false
set_option maxHeartbeats 8000000
namespace Go.Proofs.YtoppaphffnojdaaGreat
open Go.Vw
attribute [local irreducible] awp awpL awpR

theorem insInner_ok (a : Nat) : ∀ (j : Nat) (m : Array Rat), j < m.size → AllOk m → (Go.Sort.insInner ltQ a j m).size = m.size ∧ AllOk (Go.Sort.insInner ltQ a j m)
  | 0, m, h, hm => ⟨rfl, hm⟩
  | j + 1, m, h, hm => by
    unfold Go.Sort.insInner
    split
    · have := insInner_ok a j (Go.Sort.swp m (j + 1) j) (by rw [Go.Sort.size_swp]; omega) (hm.swp h (by omega))
      rw [Go.Sort.size_swp] at this
      exact this
    · exact ⟨rfl, hm⟩
theorem sl_insertion (d : Array Rat) (a b : Nat) (hd : AllOk d) (hn : d.size < 1000000000) (hab : a ≤ b) (hb : b ≤ d.size) : RetB Tryz.prog 159 [ow d, .d (.int .i64 a), .d (.int .i64 b), cmpV] (lookB [(1000, bq d)]) (.tup []) (lookB [(1000, bq (srtIn d a b))]) := by
  have hl : d.toList.length = d.size := Array.length_toList
  have hr := srtIn_size hab hb
  obtain ⟨R, hR⟩ : ∃ R, srtIn d a b = R := ⟨_, rfl⟩
  have hR2 : Go.Sort.insOuter ltQ a b (a + 1) d = R := hR
  rw [hR] at hr ⊢
  clear hR
  refine retB_of_awp tab [1000] Tryz.func159 rfl rfl rfl (Nat.le_of_ble_eq_true rfl) rfl ⟨by show d.toList.length ≤ R.toList.length; simp [hr], trivial⟩ (fun w0 F0 A io0 => ?_)
  repeat' (first
    | (show awpL _ _ _ _ _; first | refine goL ?_ | (refine gdLG ?_ ?_ <;> intro _ <;> try (exfalso; omega)))
    | (show awp _ _ _ _; first | refine goA ?_ | refine rg 4 14 ?_ | refine rg 6 16 ?_ | (refine cdG ?_ ?_ <;> intro _ <;> try (exfalso; omega)))
    | (show andThen _ _ _ _; refine goN ?_)
    | (show inBlock _ _ _ _; refine goB ?_)
    | (show awpR _ _ _ _ _ _ _; first | refine goR ?_ | (refine gdRG ?_ ?_ <;> intro _ <;> try (exfalso; omega)))
    | (show retPost _ _ _ _ _; refine finG ?_)
    | (show retPostB _ _ _ _ _ _; first | refine finB rfl rfl ?_ ?_ | refine finBT rfl rfl rfl ?_ ?_))
  refine awp_loop2 (fun (m : Array Rat) (i : Nat) => ([(0, ow d), (1, .d (.int .i64 a)), (2, .d (.int .i64 b)), (3, cmpV), (8, .d (.int .i64 i))], [(1000, bq m)])) (fun m i => m.size = d.size ∧ AllOk m ∧ a < i ∧ i ≤ b + 1 ∧ Go.Sort.insOuter ltQ a b i m = R) (fun m i => b + 1 - i) d (a + 1) ⟨rfl, hd, by omega, by omega, hR2⟩ ⟨rfl, rfl, rfl, rfl, rfl, rfl⟩ ⟨rfl, trivial⟩ (fun m i hi => ?_)
  obtain ⟨h1, h2, h3, h4, h5⟩ := hi
  have hml : m.toList.length = m.size := Array.length_toList
  clear hR2
  rw [Go.Sort.insOuter] at h5
  by_cases h : i < b
  · rw [if_pos h] at h5
    obtain ⟨F, hF⟩ : ∃ F, Go.Sort.insInner ltQ a i m = F := ⟨_, rfl⟩
    have hFo := insInner_ok a i m (by omega) h2
    rw [hF] at h5 hFo
    repeat' (first
      | (show awpL _ _ _ _ _; first | refine goL ?_ | (refine gdLG ?_ ?_ <;> intro _ <;> try (exfalso; omega)))
      | (show awp _ _ _ _; first | refine goA ?_ | refine rg 4 14 ?_ | refine rg 6 16 ?_ | (refine cdG ?_ ?_ <;> intro _ <;> try (exfalso; omega)))
      | (show andThen _ _ _ _; refine goN ?_)
      | (show inBlock _ _ _ _; refine goB ?_)
      | (show awpR _ _ _ _ _ _ _; first | refine goR ?_ | (refine gdRG ?_ ?_ <;> intro _ <;> try (exfalso; omega)))
      | (show retPost _ _ _ _ _; refine finG ?_)
      | (show retPostB _ _ _ _ _ _; first | refine finB rfl rfl ?_ ?_ | refine finBT rfl rfl rfl ?_ ?_))
    refine awp_loop2 (fun (k : Array Rat) (j : Nat) => ([(0, ow d), (1, .d (.int .i64 a)), (2, .d (.int .i64 b)), (3, cmpV), (8, .d (.int .i64 i)), (9, .d (.int .i64 j))], [(1000, bq k)])) (fun k j => j ≤ i ∧ a ≤ j ∧ k.size = d.size ∧ AllOk k ∧ Go.Sort.insInner ltQ a j k = F) (fun k j => j) m i ⟨Nat.le_refl _, by omega, h1, h2, hF⟩ ⟨rfl, rfl, rfl, rfl, rfl, rfl, rfl⟩ ⟨rfl, trivial⟩ (fun k j hj => ?_)
    obtain ⟨j1, j2, j3, j4, j5⟩ := hj
    have hkl : k.toList.length = k.size := Array.length_toList
    clear hF h2 hd
    by_cases ha : a < j
    · obtain ⟨q, rfl⟩ : ∃ q, j = q + 1 := ⟨j - 1, by omega⟩
      have ek : (((q + 1 : Nat) : Int) - 1).toNat = q := by omega
      obtain ⟨u, u1, u2, hu, c⟩ := cmpR (k.toList.getD (q + 1) 0) (k.toList.getD (((q + 1 : Nat) : Int) - 1).toNat 0) (j4.get (by omega)) (j4.get (by omega))
      rw [ek, getQ, getQ] at hu
      unfold Go.Sort.insInner at j5
      rw [decide_eq_true (show q + 1 > a from ha), Bool.true_and] at j5
      by_cases g : ltQ k[q + 1]! k[q]! = true
      · rw [if_pos g] at j5
        have g2 := hu.2 g
        clear hu g
        repeat' (first
          | (show awpL _ _ _ _ _; first | refine goL ?_ | refine cl 65 tt rfl rfl rfl (hr := c) (k := ?_) | (refine gdLG ?_ ?_ <;> intro _ <;> try (exfalso; omega)))
          | (show awp _ _ _ _; first | refine goA ?_ | refine rg 4 14 ?_ | refine rg 6 16 ?_ | (refine cdG ?_ ?_ <;> intro _ <;> try (exfalso; omega)))
          | (show andThen _ _ _ _; refine goN ?_)
          | (show inBlock _ _ _ _; refine goB ?_)
          | (show awpR _ _ _ _ _ _ _; first | refine goR ?_ | refine clR 65 tt rfl rfl rfl (hr := c) (k := ?_) | (refine gdRG ?_ ?_ <;> intro _ <;> try (exfalso; omega)))
          | (show retPost _ _ _ _ _; refine finG ?_)
          | (show retPostB _ _ _ _ _ _; first | refine finB rfl rfl ?_ ?_ | refine finBT rfl rfl rfl ?_ ?_))
        exact ⟨Go.Sort.swp k (q + 1) q, q, ⟨by omega, by omega, by rw [Go.Sort.size_swp]; exact j3, j4.swp (by omega) (by omega), j5⟩, by omega, ⟨rfl, rfl, rfl, rfl, rfl, iv (by omega), rfl⟩, blkSw, trivial⟩
      · rw [if_neg g] at j5
        have g2 := mt hu.1 g
        clear hu g
        subst j5
        repeat' (first
          | (show awpL _ _ _ _ _; first | refine goL ?_ | refine cl 65 tt rfl rfl rfl (hr := c) (k := ?_) | (refine gdLG ?_ ?_ <;> intro _ <;> try (exfalso; omega)))
          | (show awp _ _ _ _; first | refine goA ?_ | refine rg 4 14 ?_ | refine rg 6 16 ?_ | (refine cdG ?_ ?_ <;> intro _ <;> try (exfalso; omega)))
          | (show andThen _ _ _ _; refine goN ?_)
          | (show inBlock _ _ _ _; refine goB ?_)
          | (show awpR _ _ _ _ _ _ _; first | refine goR ?_ | refine clR 65 tt rfl rfl rfl (hr := c) (k := ?_) | (refine gdRG ?_ ?_ <;> intro _ <;> try (exfalso; omega)))
          | (show retPost _ _ _ _ _; refine finG ?_)
          | (show retPostB _ _ _ _ _ _; first | refine finB rfl rfl ?_ ?_ | refine finBT rfl rfl rfl ?_ ?_))
        exact ⟨k, i + 1, ⟨j3, j4, by omega, by omega, h5⟩, by omega, ⟨rfl, rfl, rfl, rfl, iv (by omega), rfl⟩, rfl, trivial⟩
    · have e : k = F := by
        rw [← j5]
        cases j with
        | zero => rfl
        | succ q =>
          unfold Go.Sort.insInner
          rw [decide_eq_false (show ¬ q + 1 > a from ha), Bool.false_and, if_neg (by decide)]
      subst e
      clear j5
      repeat' (first
        | (show awpL _ _ _ _ _; first | refine goL ?_ | (refine gdLG ?_ ?_ <;> intro _ <;> try (exfalso; omega)))
        | (show awp _ _ _ _; first | refine goA ?_ | refine rg 4 14 ?_ | refine rg 6 16 ?_ | (refine cdG ?_ ?_ <;> intro _ <;> try (exfalso; omega)))
        | (show andThen _ _ _ _; refine goN ?_)
        | (show inBlock _ _ _ _; refine goB ?_)
        | (show awpR _ _ _ _ _ _ _; first | refine goR ?_ | (refine gdRG ?_ ?_ <;> intro _ <;> try (exfalso; omega)))
        | (show retPost _ _ _ _ _; refine finG ?_)
        | (show retPostB _ _ _ _ _ _; first | refine finB rfl rfl ?_ ?_ | refine finBT rfl rfl rfl ?_ ?_))
      exact ⟨k, i + 1, ⟨j3, j4, by omega, by omega, h5⟩, by omega, ⟨rfl, rfl, rfl, rfl, iv (by omega), rfl⟩, rfl, trivial⟩
  · rw [if_neg h] at h5
    subst h5
    repeat' (first
      | (show awpL _ _ _ _ _; first | refine goL ?_ | (refine gdLG ?_ ?_ <;> intro _ <;> try (exfalso; omega)))
      | (show awp _ _ _ _; first | refine goA ?_ | refine rg 4 14 ?_ | refine rg 6 16 ?_ | (refine cdG ?_ ?_ <;> intro _ <;> try (exfalso; omega)))
      | (show andThen _ _ _ _; refine goN ?_)
      | (show inBlock _ _ _ _; refine goB ?_)
      | (show awpR _ _ _ _ _ _ _; first | refine goR ?_ | (refine gdRG ?_ ?_ <;> intro _ <;> try (exfalso; omega)))
      | (show retPost _ _ _ _ _; refine finG ?_)
      | (show retPostB _ _ _ _ _ _; first | refine finB rfl rfl ?_ ?_ | refine finBT rfl rfl rfl ?_ ?_))
    all_goals first | exact leVT | exact ⟨rfl, trivial⟩
theorem sift_ok (hi first : Nat) : ∀ (n r : Nat) (m : Array Rat), hi - r ≤ n → first + hi ≤ m.size → AllOk m → (Go.Sort.siftDown ltQ hi first r m).size = m.size ∧ AllOk (Go.Sort.siftDown ltQ hi first r m) := by
  intro n
  induction n with
  | zero =>
    intro r m h hs hm
    rw [Go.Sort.siftDown, dif_pos (by omega)]
    exact ⟨rfl, hm⟩
  | succ n ih =>
    intro r m h hs hm
    rw [Go.Sort.siftDown]
    by_cases c1 : 2 * r + 1 ≥ hi
    · rw [dif_pos c1]; exact ⟨rfl, hm⟩
    · rw [dif_neg c1]
      split
      · split
        · exact ⟨rfl, hm⟩
        · split
          · have := ih (2 * r + 2) (Go.Sort.swp m (first + r) (first + (2 * r + 2))) (by omega) (by rw [Go.Sort.size_swp]; exact hs) (hm.swp (by omega) (by omega))
            rw [Go.Sort.size_swp] at this
            exact this
          · exact ⟨rfl, hm⟩
      · split
        · exact ⟨rfl, hm⟩
        · have := ih (2 * r + 1) (Go.Sort.swp m (first + r) (first + (2 * r + 1))) (by omega) (by rw [Go.Sort.size_swp]; exact hs) (hm.swp (by omega) (by omega))
          rw [Go.Sort.size_swp] at this
          exact this
theorem sl_sift (d : Array Rat) (lo hi first : Nat) (hd : AllOk d) (hn : d.size < 1000000000) (hs : first + hi ≤ d.size) (hlo : lo < 1000000000) : RetB Tryz.prog 169 [ow d, .d (.int .i64 lo), .d (.int .i64 hi), .d (.int .i64 first), cmpV] (lookB [(1000, bq d)]) (.tup []) (lookB [(1000, bq (Go.Sort.siftDown ltQ hi first lo d))]) := by
  have hl : d.toList.length = d.size := Array.length_toList
  have hr := (sift_ok hi first _ lo d (Nat.le_refl _) hs hd).1
  obtain ⟨R, hR⟩ : ∃ R, Go.Sort.siftDown ltQ hi first lo d = R := ⟨_, rfl⟩
  rw [hR] at hr ⊢
  refine retB_of_awp tab [1000] Tryz.func169 rfl rfl rfl (Nat.le_of_ble_eq_true rfl) rfl ⟨by show d.toList.length ≤ R.toList.length; simp [hr], trivial⟩ (fun w0 F0 A io0 => ?_)
  repeat' (first
    | (show awpL _ _ _ _ _; first | refine goL ?_ | (refine gdLG ?_ ?_ <;> intro _ <;> try (exfalso; omega)))
    | (show awp _ _ _ _; first | refine goA ?_ | refine rg 3 19 ?_ | refine rg 5 13 ?_ | refine rg 6 22 ?_ | (refine cdG ?_ ?_ <;> intro _ <;> try (exfalso; omega)))
    | (show andThen _ _ _ _; refine goN ?_)
    | (show inBlock _ _ _ _; refine goB ?_)
    | (show awpR _ _ _ _ _ _ _; first | refine goR ?_ | (refine gdRG ?_ ?_ <;> intro _ <;> try (exfalso; omega)))
    | (show retPost _ _ _ _ _; refine finG ?_)
    | (show retPostB _ _ _ _ _ _; first | refine finB rfl rfl ?_ ?_ | refine finBT rfl rfl rfl ?_ ?_))
  refine awp_loop2 (fun (m : Array Rat) (r : Nat) => ([(0, ow d), (2, .d (.int .i64 hi)), (3, .d (.int .i64 first)), (4, cmpV), (10, .d (.int .i64 r))], [(1000, bq m)])) (fun m r => m.size = d.size ∧ AllOk m ∧ r < 1000000000 ∧ Go.Sort.siftDown ltQ hi first r m = R) (fun m r => hi - r) d lo ⟨rfl, hd, hlo, hR⟩ ⟨rfl, rfl, rfl, rfl, rfl, rfl⟩ ⟨rfl, trivial⟩ (fun m r hi' => ?_)
  obtain ⟨h1, h2, h3, h4⟩ := hi'
  have hml : m.toList.length = m.size := Array.length_toList
  clear hR hd
  rw [Go.Sort.siftDown] at h4
  by_cases c1 : 2 * r + 1 ≥ hi
  · rw [dif_pos c1] at h4
    subst h4
    repeat' (first
      | (show awpL _ _ _ _ _; first | refine goL ?_ | (refine gdLG ?_ ?_ <;> intro _ <;> try (exfalso; omega)))
      | (show awp _ _ _ _; first | refine goA ?_ | refine rg 3 19 ?_ | refine rg 5 13 ?_ | refine rg 6 22 ?_ | (refine cdG ?_ ?_ <;> intro _ <;> try (exfalso; omega)))
      | (show andThen _ _ _ _; refine goN ?_)
      | (show inBlock _ _ _ _; refine goB ?_)
      | (show awpR _ _ _ _ _ _ _; first | refine goR ?_ | (refine gdRG ?_ ?_ <;> intro _ <;> try (exfalso; omega)))
      | (show retPost _ _ _ _ _; refine finG ?_)
      | (show retPostB _ _ _ _ _ _; first | refine finB rfl rfl ?_ ?_ | refine finBT rfl rfl rfl ?_ ?_))
    all_goals first | exact leVT | exact ⟨rfl, trivial⟩
  · rw [dif_neg c1] at h4
    by_cases c2 : 2 * r + 1 + 1 < hi
    · rw [decide_eq_true c2, Bool.true_and] at h4
      obtain ⟨u, u1, u2, hu, c⟩ := cmpR (m.toList.getD (first + (2 * r + 1)) 0) (m.toList.getD (first + (2 * r + 1) + 1) 0) (h2.get (by omega)) (h2.get (by omega))
      rw [getQ, getQ] at hu
      by_cases c3 : ltQ m[first + (2 * r + 1)]! m[first + (2 * r + 1) + 1]! = true
      · rw [if_pos c3] at h4
        have g3 := hu.2 c3
        clear hu c3
        obtain ⟨u', v1, v2, hv, c'⟩ := cmpR (m.toList.getD (first + r) 0) (m.toList.getD (first + (2 * r + 1 + 1)) 0) (h2.get (by omega)) (h2.get (by omega))
        rw [getQ, getQ, show first + (2 * r + 1 + 1) = first + (2 * r + 2) from rfl] at hv
        by_cases c4 : ltQ m[first + r]! m[first + (2 * r + 2)]! = true
        · rw [c4, if_neg (by decide), dif_pos c2] at h4
          have g4 := hv.2 c4
          clear hv c4
          repeat' (first
            | (show awpL _ _ _ _ _; first | refine goL ?_ | refine cl 65 tt rfl rfl rfl (hr := c) (k := ?_) | refine cl 65 tt rfl rfl rfl (hr := c') (k := ?_) | (refine gdLG ?_ ?_ <;> intro _ <;> try (exfalso; omega)))
            | (show awp _ _ _ _; first | refine goA ?_ | refine rg 3 19 ?_ | refine rg 5 13 ?_ | refine rg 6 22 ?_ | (refine cdG ?_ ?_ <;> intro _ <;> try (exfalso; omega)))
            | (show andThen _ _ _ _; refine goN ?_)
            | (show inBlock _ _ _ _; refine goB ?_)
            | (show awpR _ _ _ _ _ _ _; first | refine goR ?_ | refine clR 65 tt rfl rfl rfl (hr := c) (k := ?_) | refine clR 65 tt rfl rfl rfl (hr := c') (k := ?_) | (refine gdRG ?_ ?_ <;> intro _ <;> try (exfalso; omega)))
            | (show retPost _ _ _ _ _; refine finG ?_)
            | (show retPostB _ _ _ _ _ _; first | refine finB rfl rfl ?_ ?_ | refine finBT rfl rfl rfl ?_ ?_))
          exact ⟨Go.Sort.swp m (first + r) (first + (2 * r + 2)), 2 * r + 2, ⟨by rw [Go.Sort.size_swp]; exact h1, h2.swp (by omega) (by omega), by omega, h4⟩, by omega, ⟨rfl, rfl, rfl, rfl, iv (by omega), rfl⟩, blkSw (by omega) rfl (by omega) rfl, trivial⟩
        · rw [Bool.eq_false_iff.2 c4, if_pos (by decide)] at h4
          have g4 := mt hv.1 c4
          clear hv c4
          subst h4
          repeat' (first
            | (show awpL _ _ _ _ _; first | refine goL ?_ | refine cl 65 tt rfl rfl rfl (hr := c) (k := ?_) | refine cl 65 tt rfl rfl rfl (hr := c') (k := ?_) | (refine gdLG ?_ ?_ <;> intro _ <;> try (exfalso; omega)))
            | (show awp _ _ _ _; first | refine goA ?_ | refine rg 3 19 ?_ | refine rg 5 13 ?_ | refine rg 6 22 ?_ | (refine cdG ?_ ?_ <;> intro _ <;> try (exfalso; omega)))
            | (show andThen _ _ _ _; refine goN ?_)
            | (show inBlock _ _ _ _; refine goB ?_)
            | (show awpR _ _ _ _ _ _ _; first | refine goR ?_ | refine clR 65 tt rfl rfl rfl (hr := c) (k := ?_) | refine clR 65 tt rfl rfl rfl (hr := c') (k := ?_) | (refine gdRG ?_ ?_ <;> intro _ <;> try (exfalso; omega)))
            | (show retPost _ _ _ _ _; refine finG ?_)
            | (show retPostB _ _ _ _ _ _; first | refine finB rfl rfl ?_ ?_ | refine finBT rfl rfl rfl ?_ ?_))
          all_goals first | exact leVT | exact ⟨rfl, trivial⟩
      · rw [if_neg c3] at h4
        have g3 := mt hu.1 c3
        clear hu c3
        obtain ⟨u', v1, v2, hv, c'⟩ := cmpR (m.toList.getD (first + r) 0) (m.toList.getD (first + (2 * r + 1)) 0) (h2.get (by omega)) (h2.get (by omega))
        rw [getQ, getQ] at hv
        by_cases c4 : ltQ m[first + r]! m[first + (2 * r + 1)]! = true
        · rw [c4, if_neg (by decide)] at h4
          have g4 := hv.2 c4
          clear hv c4
          repeat' (first
            | (show awpL _ _ _ _ _; first | refine goL ?_ | refine cl 65 tt rfl rfl rfl (hr := c) (k := ?_) | refine cl 65 tt rfl rfl rfl (hr := c') (k := ?_) | (refine gdLG ?_ ?_ <;> intro _ <;> try (exfalso; omega)))
            | (show awp _ _ _ _; first | refine goA ?_ | refine rg 3 19 ?_ | refine rg 5 13 ?_ | refine rg 6 22 ?_ | (refine cdG ?_ ?_ <;> intro _ <;> try (exfalso; omega)))
            | (show andThen _ _ _ _; refine goN ?_)
            | (show inBlock _ _ _ _; refine goB ?_)
            | (show awpR _ _ _ _ _ _ _; first | refine goR ?_ | refine clR 65 tt rfl rfl rfl (hr := c) (k := ?_) | refine clR 65 tt rfl rfl rfl (hr := c') (k := ?_) | (refine gdRG ?_ ?_ <;> intro _ <;> try (exfalso; omega)))
            | (show retPost _ _ _ _ _; refine finG ?_)
            | (show retPostB _ _ _ _ _ _; first | refine finB rfl rfl ?_ ?_ | refine finBT rfl rfl rfl ?_ ?_))
          exact ⟨Go.Sort.swp m (first + r) (first + (2 * r + 1)), 2 * r + 1, ⟨by rw [Go.Sort.size_swp]; exact h1, h2.swp (by omega) (by omega), by omega, h4⟩, by omega, ⟨rfl, rfl, rfl, rfl, iv (by omega), rfl⟩, blkSw (by omega) rfl (by omega) rfl, trivial⟩
        · rw [Bool.eq_false_iff.2 c4, if_pos (by decide)] at h4
          have g4 := mt hv.1 c4
          clear hv c4
          subst h4
          repeat' (first
            | (show awpL _ _ _ _ _; first | refine goL ?_ | refine cl 65 tt rfl rfl rfl (hr := c) (k := ?_) | refine cl 65 tt rfl rfl rfl (hr := c') (k := ?_) | (refine gdLG ?_ ?_ <;> intro _ <;> try (exfalso; omega)))
            | (show awp _ _ _ _; first | refine goA ?_ | refine rg 3 19 ?_ | refine rg 5 13 ?_ | refine rg 6 22 ?_ | (refine cdG ?_ ?_ <;> intro _ <;> try (exfalso; omega)))
            | (show andThen _ _ _ _; refine goN ?_)
            | (show inBlock _ _ _ _; refine goB ?_)
            | (show awpR _ _ _ _ _ _ _; first | refine goR ?_ | refine clR 65 tt rfl rfl rfl (hr := c) (k := ?_) | refine clR 65 tt rfl rfl rfl (hr := c') (k := ?_) | (refine gdRG ?_ ?_ <;> intro _ <;> try (exfalso; omega)))
            | (show retPost _ _ _ _ _; refine finG ?_)
            | (show retPostB _ _ _ _ _ _; first | refine finB rfl rfl ?_ ?_ | refine finBT rfl rfl rfl ?_ ?_))
          all_goals first | exact leVT | exact ⟨rfl, trivial⟩
    · rw [decide_eq_false c2, Bool.false_and, if_neg (by decide)] at h4
      obtain ⟨u', v1, v2, hv, c'⟩ := cmpR (m.toList.getD (first + r) 0) (m.toList.getD (first + (2 * r + 1)) 0) (h2.get (by omega)) (h2.get (by omega))
      rw [getQ, getQ] at hv
      by_cases c4 : ltQ m[first + r]! m[first + (2 * r + 1)]! = true
      · rw [c4, if_neg (by decide)] at h4
        have g4 := hv.2 c4
        clear hv c4
        repeat' (first
          | (show awpL _ _ _ _ _; first | refine goL ?_ | refine cl 65 tt rfl rfl rfl (hr := c') (k := ?_) | (refine gdLG ?_ ?_ <;> intro _ <;> try (exfalso; omega)))
          | (show awp _ _ _ _; first | refine goA ?_ | refine rg 3 19 ?_ | refine rg 5 13 ?_ | refine rg 6 22 ?_ | (refine cdG ?_ ?_ <;> intro _ <;> try (exfalso; omega)))
          | (show andThen _ _ _ _; refine goN ?_)
          | (show inBlock _ _ _ _; refine goB ?_)
          | (show awpR _ _ _ _ _ _ _; first | refine goR ?_ | refine clR 65 tt rfl rfl rfl (hr := c') (k := ?_) | (refine gdRG ?_ ?_ <;> intro _ <;> try (exfalso; omega)))
          | (show retPost _ _ _ _ _; refine finG ?_)
          | (show retPostB _ _ _ _ _ _; first | refine finB rfl rfl ?_ ?_ | refine finBT rfl rfl rfl ?_ ?_))
        exact ⟨Go.Sort.swp m (first + r) (first + (2 * r + 1)), 2 * r + 1, ⟨by rw [Go.Sort.size_swp]; exact h1, h2.swp (by omega) (by omega), by omega, h4⟩, by omega, ⟨rfl, rfl, rfl, rfl, iv (by omega), rfl⟩, blkSw (by omega) rfl (by omega) rfl, trivial⟩
      · rw [Bool.eq_false_iff.2 c4, if_pos (by decide)] at h4
        have g4 := mt hv.1 c4
        clear hv c4
        subst h4
        repeat' (first
          | (show awpL _ _ _ _ _; first | refine goL ?_ | refine cl 65 tt rfl rfl rfl (hr := c') (k := ?_) | (refine gdLG ?_ ?_ <;> intro _ <;> try (exfalso; omega)))
          | (show awp _ _ _ _; first | refine goA ?_ | refine rg 3 19 ?_ | refine rg 5 13 ?_ | refine rg 6 22 ?_ | (refine cdG ?_ ?_ <;> intro _ <;> try (exfalso; omega)))
          | (show andThen _ _ _ _; refine goN ?_)
          | (show inBlock _ _ _ _; refine goB ?_)
          | (show awpR _ _ _ _ _ _ _; first | refine goR ?_ | refine clR 65 tt rfl rfl rfl (hr := c') (k := ?_) | (refine gdRG ?_ ?_ <;> intro _ <;> try (exfalso; omega)))
          | (show retPost _ _ _ _ _; refine finG ?_)
          | (show retPostB _ _ _ _ _ _; first | refine finB rfl rfl ?_ ?_ | refine finBT rfl rfl rfl ?_ ?_))
        all_goals first | exact leVT | exact ⟨rfl, trivial⟩
theorem build_ok (hi first : Nat) : ∀ (k : Nat) (m : Array Rat), first + hi ≤ m.size → AllOk m → (Go.Sort.heapBuild ltQ hi first k m).size = m.size ∧ AllOk (Go.Sort.heapBuild ltQ hi first k m)
  | 0, m, hs, hm => ⟨rfl, hm⟩
  | k + 1, m, hs, hm => by
    unfold Go.Sort.heapBuild
    have h1 := sift_ok hi first _ k m (Nat.le_refl _) hs hm
    have h2 := build_ok hi first k _ (by rw [h1.1]; exact hs) h1.2
    rw [h1.1] at h2
    exact h2
theorem sl_heap (d : Array Rat) (a b : Nat) (hd : AllOk d) (hn : d.size < 1000000000) (hab : a < b) (hb : b ≤ d.size) : RetB Tryz.prog 160 [ow d, .d (.int .i64 a), .d (.int .i64 b), cmpV] (lookB [(1000, bq d)]) (.tup []) (lookB [(1000, bq (srtIn d a b))]) := by
  have hl : d.toList.length = d.size := Array.length_toList
  have hr := srtIn_size (Nat.le_of_lt hab) hb
  have hR := Go.Sort.heapSort_holds swoQ d a b (Nat.le_of_lt hab) hb
  have hR2 := srtIn_of (Nat.le_of_lt hab) hb hR.1 hR.2
  clear hR
  obtain ⟨R, hRR⟩ : ∃ R, srtIn d a b = R := ⟨_, rfl⟩
  rw [hRR] at hr hR2 ⊢
  clear hRR
  unfold Go.Sort.heapSort at hR2
  have ho := build_ok (b - a) a ((b - a - 1) / 2 + 1) d (by omega) hd
  obtain ⟨E, hE⟩ : ∃ E, Go.Sort.heapBuild ltQ (b - a) a ((b - a - 1) / 2 + 1) d = E := ⟨_, rfl⟩
  rw [hE] at hR2 ho
  refine retB_of_awp tab [1000] Tryz.func160 rfl rfl rfl (Nat.le_of_ble_eq_true rfl) rfl ⟨by show d.toList.length ≤ R.toList.length; simp [hr], trivial⟩ (fun w0 F0 A io0 => ?_)
  repeat' (first
    | (show awpL _ _ _ _ _; first | refine goL ?_ | (refine gdLG ?_ ?_ <;> intro _ <;> try (exfalso; omega)))
    | (show awp _ _ _ _; first | refine goA ?_ | refine rg 10 18 ?_ | (refine cdG ?_ ?_ <;> intro _ <;> try (exfalso; omega)))
    | (show andThen _ _ _ _; refine goN ?_)
    | (show inBlock _ _ _ _; refine goB ?_)
    | (show awpR _ _ _ _ _ _ _; first | refine goR ?_ | (refine gdRG ?_ ?_ <;> intro _ <;> try (exfalso; omega)))
    | (show retPost _ _ _ _ _; refine finG ?_)
    | (show retPostB _ _ _ _ _ _; first | refine finB rfl rfl ?_ ?_ | refine finBT rfl rfl rfl ?_ ?_))
  refine awp_loop2 (fun (m : Array Rat) (k : Nat) => ([(0, ow d), (1, .d (.int .i64 a)), (2, .d (.int .i64 b)), (3, cmpV), (8, .d (.int .i64 a)), (9, .d (.int .i64 0)), (10, .d (.int .i64 (b - a : Nat))), (11, .d (.int .i64 ((k : Int) - 1)))], [(1000, bq m)])) (fun m k => m.size = d.size ∧ AllOk m ∧ k ≤ b ∧ Go.Sort.heapBuild ltQ (b - a) a k m = E) (fun m k => k) d ((b - a - 1) / 2 + 1) ⟨rfl, hd, by omega, hE⟩ ⟨rfl, rfl, rfl, rfl, rfl, rfl, iv (by omega), iv (by omega), rfl⟩ ⟨rfl, trivial⟩ (fun m k hi => ?_)
  obtain ⟨h1, h2, h3, h4⟩ := hi
  have hml : m.toList.length = m.size := Array.length_toList
  clear hE
  cases k with
  | succ k =>
    unfold Go.Sort.heapBuild at h4
    have o := sl_sift m k (b - a) a h2 (by omega) (by omega) (by omega)
    have o2 := sift_ok (b - a) a _ k m (Nat.le_refl _) (by omega) h2
    generalize Go.Sort.siftDown ltQ (b - a) a k m = m2 at *
    rw [show ow m = ow d by unfold ow; rw [h1]] at o
    clear ho hR2
    repeat' (first
      | (show awpL _ _ _ _ _; first | refine goL ?_ | refine clB 169 [] (o) tt rfl rfl rfl rfl rfl rfl leVT allB ?_ | (refine gdLG ?_ ?_ <;> intro _ <;> try (exfalso; omega)))
      | (show awp _ _ _ _; first | refine goA ?_ | refine rg 10 18 ?_ | (refine cdG ?_ ?_ <;> intro _ <;> try (exfalso; omega)))
      | (show andThen _ _ _ _; refine goN ?_)
      | (show inBlock _ _ _ _; refine goB ?_)
      | (show awpR _ _ _ _ _ _ _; first | refine goR ?_ | (refine gdRG ?_ ?_ <;> intro _ <;> try (exfalso; omega)))
      | (show retPost _ _ _ _ _; refine finG ?_)
      | (show retPostB _ _ _ _ _ _; first | refine finB rfl rfl ?_ ?_ | refine finBT rfl rfl rfl ?_ ?_))
    exact ⟨m2, k, ⟨by omega, o2.2, by omega, h4⟩, by omega, ⟨rfl, rfl, rfl, rfl, rfl, rfl, rfl, iv (by omega), rfl⟩, rfl, trivial⟩
  | zero =>
    have e : m = E := h4
    subst e
    clear h4
    repeat' (first
      | (show awpL _ _ _ _ _; first | refine goL ?_ | (refine gdLG ?_ ?_ <;> intro _ <;> try (exfalso; omega)))
      | (show awp _ _ _ _; first | refine goA ?_ | refine rg 10 18 ?_ | (refine cdG ?_ ?_ <;> intro _ <;> try (exfalso; omega)))
      | (show andThen _ _ _ _; refine goN ?_)
      | (show inBlock _ _ _ _; refine goB ?_)
      | (show awpR _ _ _ _ _ _ _; first | refine goR ?_ | (refine gdRG ?_ ?_ <;> intro _ <;> try (exfalso; omega)))
      | (show retPost _ _ _ _ _; refine finG ?_)
      | (show retPostB _ _ _ _ _ _; first | refine finB rfl rfl ?_ ?_ | refine finBT rfl rfl rfl ?_ ?_))
    refine awp_loop2 (fun (m : Array Rat) (k : Nat) => ([(0, ow d), (3, cmpV), (8, .d (.int .i64 a)), (9, .d (.int .i64 0)), (12, .d (.int .i64 ((k : Int) - 1)))], [(1000, bq m)])) (fun m k => m.size = d.size ∧ AllOk m ∧ a + k ≤ b ∧ Go.Sort.heapPop ltQ a k m = R) (fun m k => k) m (b - a) ⟨h1, h2, by omega, hR2⟩ ⟨rfl, rfl, rfl, rfl, iv (by omega), rfl⟩ ⟨rfl, trivial⟩ (fun m k hi => ?_)
    obtain ⟨h1, h2, h3, h4⟩ := hi
    have hml : m.toList.length = m.size := Array.length_toList
    cases k with
    | succ k =>
      unfold Go.Sort.heapPop at h4
      have hw : (Go.Sort.swp m a (a + k)).size = m.size := Go.Sort.size_swp ..
      have hwo := h2.swp (i := a) (j := a + k) (by omega) (by omega)
      have hwl := swp_toList m a (a + k)
      obtain ⟨m1, hm1⟩ : ∃ m1, Go.Sort.swp m a (a + k) = m1 := ⟨_, rfl⟩
      rw [hm1] at h4 hw hwo hwl
      have o := sl_sift m1 0 k a hwo (by omega) (by omega) (by omega)
      have o2 := sift_ok k a _ 0 m1 (Nat.le_refl _) (by omega) hwo
      generalize Go.Sort.siftDown ltQ k a 0 m1 = m2 at *
      rw [show ow m1 = ow d by unfold ow; rw [hw, h1]] at o
      clear ho hR2
      have ek : ((a : Int) + (((k + 1 : Nat) : Int) - 1)).toNat = a + k := by omega
      have hbl := blkSw (ty := 27) (sz := 3) (e := qC) (z := 0) (d := m) (i := a) (j := a + k) (a := a) (b := ((a : Int) + (((k + 1 : Nat) : Int) - 1)).toNat) (a' := a) (b' := ((a : Int) + (((k + 1 : Nat) : Int) - 1)).toNat)
      rw [hm1] at hbl
      repeat' (first
        | (show awpL _ _ _ _ _; first | refine goL ?_ | (refine gdLG ?_ ?_ <;> intro _ <;> try (exfalso; omega)))
        | (show awp _ _ _ _; first | refine stopA 11 tt ?_)
        | (show awp _ _ _ _; first | refine goA ?_ | refine rg 10 18 ?_ | (refine cdG ?_ ?_ <;> intro _ <;> try (exfalso; omega)))
        | (show andThen _ _ _ _; refine goN ?_)
        | (show inBlock _ _ _ _; refine goB ?_)
        | (show awpR _ _ _ _ _ _ _; first | refine goR ?_ | (refine gdRG ?_ ?_ <;> intro _ <;> try (exfalso; omega)))
        | (show retPost _ _ _ _ _; refine finG ?_)
        | (show retPostB _ _ _ _ _ _; first | refine finB rfl rfl ?_ ?_ | refine finBT rfl rfl rfl ?_ ?_))
      refine stopOut ?_
      refine awp_slots [(0, ow d), (3, cmpV), (8, .d (.int .i64 a)), (9, .d (.int .i64 0)), (12, .d (.int .i64 (((k + 1 : Nat) : Int) - 1)))] [(1000, bq m1)] ⟨rfl, rfl, rfl, rfl, rfl, rfl⟩ ⟨hbl, trivial⟩ ?_
      repeat' (first
        | (show awpL _ _ _ _ _; first | refine goL ?_ | refine clB 169 [] (o) tt rfl rfl rfl rfl rfl rfl leVT allB ?_ | (refine gdLG ?_ ?_ <;> intro _ <;> try (exfalso; omega)))
        | (show awp _ _ _ _; first | refine goA ?_ | refine rg 10 18 ?_ | (refine cdG ?_ ?_ <;> intro _ <;> try (exfalso; omega)))
        | (show andThen _ _ _ _; refine goN ?_)
        | (show inBlock _ _ _ _; refine goB ?_)
        | (show awpR _ _ _ _ _ _ _; first | refine goR ?_ | (refine gdRG ?_ ?_ <;> intro _ <;> try (exfalso; omega)))
        | (show retPost _ _ _ _ _; refine finG ?_)
        | (show retPostB _ _ _ _ _ _; first | refine finB rfl rfl ?_ ?_ | refine finBT rfl rfl rfl ?_ ?_))
      exact ⟨m2, k, ⟨by omega, o2.2, by omega, h4⟩, by omega, ⟨rfl, rfl, rfl, rfl, iv (by omega), rfl⟩, rfl, trivial⟩
    | zero =>
      have e : m = R := h4
      subst e
      clear h4
      repeat' (first
        | (show awpL _ _ _ _ _; first | refine goL ?_ | (refine gdLG ?_ ?_ <;> intro _ <;> try (exfalso; omega)))
        | (show awp _ _ _ _; first | refine goA ?_ | refine rg 10 18 ?_ | (refine cdG ?_ ?_ <;> intro _ <;> try (exfalso; omega)))
        | (show andThen _ _ _ _; refine goN ?_)
        | (show inBlock _ _ _ _; refine goB ?_)
        | (show awpR _ _ _ _ _ _ _; first | refine goR ?_ | (refine gdRG ?_ ?_ <;> intro _ <;> try (exfalso; omega)))
        | (show retPost _ _ _ _ _; refine finG ?_)
        | (show retPostB _ _ _ _ _ _; first | refine finB rfl rfl ?_ ?_ | refine finBT rfl rfl rfl ?_ ?_))
      all_goals first | exact leVT | exact ⟨rfl, trivial⟩
end Go.Proofs.YtoppaphffnojdaaGreat

set_option linter.unusedVariables false
set_option linter.unusedSimpArgs false
set_option maxHeartbeats 8000000
namespace Go.Proofs.YtoppaphffnojdaaGreat
open Go.Vw
attribute [local irreducible] awp awpL awpR

theorem scanDown_stop (p : Rat → Bool) (m : Array Rat) (i j : Nat) (h : ¬ i ≤ j) : Go.Sort.scanDown p m i j = j := by
  cases j with
  | zero => rfl
  | succ t => rw [Go.Sort.scanDown, decide_eq_false h, Bool.false_and, if_neg (by decide)]
theorem scanDown_at (p : Rat → Bool) (m : Array Rat) (i t : Nat) (h : i ≤ t + 1) : Go.Sort.scanDown p m i (t + 1) = if p m[t + 1]! = true then Go.Sort.scanDown p m i t else t + 1 := by
  rw [Go.Sort.scanDown, decide_eq_true h, Bool.true_and]
theorem scanUp_at (p : Rat → Bool) (m : Array Rat) (i j : Nat) (h : i ≤ j) : Go.Sort.scanUp p m j i = if p m[i]! = true then Go.Sort.scanUp p m j (i + 1) else i := by
  rw [Go.Sort.scanUp, decide_eq_true h, Bool.true_and]
theorem scanUp_stop (p : Rat → Bool) (m : Array Rat) (i j : Nat) (h : ¬ i ≤ j) : Go.Sort.scanUp p m j i = i := by
  rw [Go.Sort.scanUp, decide_eq_false h, Bool.false_and, if_neg (by decide)]
theorem part_size (d : Array Rat) {a b p : Nat} (h1 : a ≤ p) (h2 : p < b) (hb : b ≤ d.size) : (Go.Sort.partition ltQ d a b p).2.2.size = d.size := (Go.Sort.partition_holds ltQ swoQ d a b p h1 h2 hb).2.2.1.1

theorem sl_partition (d : Array Rat) (a b p : Nat) (hd : AllOk d) (hn : d.size < 1000000000) (h1 : a ≤ p) (h2 : p < b) (hb : b ≤ d.size) : RetB Tryz.prog 166 [ow d, .d (.int .i64 a), .d (.int .i64 b), .d (.int .i64 p), cmpV] (lookB [(1000, bq d)]) (.tup [.d (.int .i64 (Go.Sort.partition ltQ d a b p).1), .d (.bool (Go.Sort.partition ltQ d a b p).2.1)]) (lookB [(1000, bq (Go.Sort.partition ltQ d a b p).2.2)]) := by
  have hl : d.toList.length = d.size := Array.length_toList
  have hr := part_size d h1 h2 hb
  have hP := (Go.Sort.partition_holds ltQ swoQ d a b p h1 h2 hb).2.1
  obtain ⟨R, hR⟩ : ∃ R, Go.Sort.partition ltQ d a b p = R := ⟨_, rfl⟩
  rw [hR] at hr hP ⊢
  unfold Go.Sort.partition at hR
  have hs : (Go.Sort.swp d a p).size = d.size := Go.Sort.size_swp ..
  have hm := hd.swp (i := a) (j := p) (by omega) (by omega)
  have hw := blkSw (ty := 27) (sz := 3) (e := qC) (z := 0) (d := d) (i := a) (j := p) (a := a) (b := p) (a' := a) (b' := p)
  generalize Go.Sort.swp d a p = m at *
  have hml : m.toList.length = m.size := Array.length_toList
  obtain ⟨j, hj⟩ : ∃ j, b - 1 = j := ⟨_, rfl⟩
  rw [hj] at hR
  obtain ⟨i2, hi2⟩ : ∃ i2, Go.Sort.scanUp (fun x => ltQ x m[a]!) m j (a + 1) = i2 := ⟨_, rfl⟩
  obtain ⟨j2, hj2⟩ : ∃ j2, Go.Sort.scanDown (fun x => !ltQ x m[a]!) m i2 j = j2 := ⟨_, rfl⟩
  have b1 := Go.Sort.scanUp_ge (fun x => ltQ x m[a]!) m j (a + 1)
  have b3 := Go.Sort.scanUp_spec (fun x => ltQ x m[a]!) m j _ (a + 1) rfl
  rw [hi2] at b1 b3
  have b5 := b3.2.1 (by omega)
  have b2 := Go.Sort.scanDown_le (fun x => !ltQ x m[a]!) m i2 j
  have b4 := Go.Sort.scanDown_spec (fun x => !ltQ x m[a]!) m i2 j
  rw [hj2] at b2 b4
  have b6 := b4.2.1 (by omega)
  have b7 : i2 ≤ j2 → i2 < j2 := fun h => by
    rcases Nat.lt_or_eq_of_le h with h | h
    · exact h
    · have x1 := b3.2.2.2 (by omega)
      have x2 := b4.2.2.2 (Nat.le_of_eq h) (by omega)
      rw [← h, x1] at x2
      exact absurd x2 (by decide)
  clear b3 b4
  dsimp only at hR
  rw [hi2, hj2] at hR
  refine retB_of_awp tab [1000] Tryz.func166 rfl rfl rfl (Nat.le_of_ble_eq_true rfl) rfl ⟨by show d.toList.length ≤ R.2.2.toList.length; simp [hr], trivial⟩ (fun w0 F0 A io0 => ?_)
  repeat' (first
    | (show awpL _ _ _ _ _; first | refine goL ?_ | (refine gdLG ?_ ?_ <;> intro _ <;> try (exfalso; omega)))
    | (show awp _ _ _ _; first | refine stopA 2 tt ?_)
    | (show awp _ _ _ _; first | refine goA ?_ | refine rg 1 14 ?_ | refine rg 3 13 ?_ | refine rg 5 13 ?_ | refine rg 8 14 ?_ | refine rg 10 14 ?_ | refine rg 13 13 ?_ | refine rg 15 13 ?_ | refine rg 18 14 ?_ | refine rg 21 14 ?_ | (refine cdG ?_ ?_ <;> intro _ <;> try (exfalso; omega)))
    | (show andThen _ _ _ _; refine goN ?_)
    | (show inBlock _ _ _ _; refine goB ?_)
    | (show awpR _ _ _ _ _ _ _; first | refine goR ?_ | (refine gdRG ?_ ?_ <;> intro _ <;> try (exfalso; omega)))
    | (show retPost _ _ _ _ _; refine finG ?_)
    | (show retPostB _ _ _ _ _ _; first | refine finB rfl rfl ?_ ?_ | refine finBT rfl rfl rfl ?_ ?_))
  refine stopOut ?_
  refine awp_slots [(0, ow d), (1, .d (.int .i64 a)), (2, .d (.int .i64 b)), (4, cmpV)] [(1000, bq m)] ⟨rfl, rfl, rfl, rfl, rfl⟩ ⟨hw, trivial⟩ ?_
  repeat' (first
    | (show awpL _ _ _ _ _; first | refine goL ?_ | (refine gdLG ?_ ?_ <;> intro _ <;> try (exfalso; omega)))
    | (show awp _ _ _ _; first | refine stopA 3 tt ?_)
    | (show awp _ _ _ _; first | refine goA ?_ | refine rg 1 14 ?_ | refine rg 3 13 ?_ | refine rg 5 13 ?_ | refine rg 8 14 ?_ | refine rg 10 14 ?_ | refine rg 13 13 ?_ | refine rg 15 13 ?_ | refine rg 18 14 ?_ | refine rg 21 14 ?_ | (refine cdG ?_ ?_ <;> intro _ <;> try (exfalso; omega)))
    | (show andThen _ _ _ _; refine goN ?_)
    | (show inBlock _ _ _ _; refine goB ?_)
    | (show awpR _ _ _ _ _ _ _; first | refine goR ?_ | (refine gdRG ?_ ?_ <;> intro _ <;> try (exfalso; omega)))
    | (show retPost _ _ _ _ _; refine finG ?_)
    | (show retPostB _ _ _ _ _ _; first | refine finB rfl rfl ?_ ?_ | refine finBT rfl rfl rfl ?_ ?_))
  refine stopOut ?_
  refine awp_meet1 (fun (_ : Unit) => ([(0, ow d), (1, .d (.int .i64 a)), (4, cmpV), (12, .d (.int .i64 i2)), (13, .d (.int .i64 j))], [(1000, bq m)])) (fun _ => True) (fun _ _ => ?_) ?_
  rotate_left
  · repeat' (first
      | (show awpL _ _ _ _ _; first | refine goL ?_ | (refine gdLG ?_ ?_ <;> intro _ <;> try (exfalso; omega)))
      | (show awp _ _ _ _; first | refine goA ?_ | refine rg 1 14 ?_ | refine rg 3 13 ?_ | refine rg 5 13 ?_ | refine rg 8 14 ?_ | refine rg 10 14 ?_ | refine rg 13 13 ?_ | refine rg 15 13 ?_ | refine rg 18 14 ?_ | refine rg 21 14 ?_ | (refine cdG ?_ ?_ <;> intro _ <;> try (exfalso; omega)))
      | (show andThen _ _ _ _; refine goN ?_)
      | (show inBlock _ _ _ _; refine goB ?_)
      | (show awpR _ _ _ _ _ _ _; first | refine goR ?_ | (refine gdRG ?_ ?_ <;> intro _ <;> try (exfalso; omega)))
      | (show retPost _ _ _ _ _; refine finG ?_)
      | (show retPostB _ _ _ _ _ _; first | refine finB rfl rfl ?_ ?_ | refine finBT rfl rfl rfl ?_ ?_))
    refine awp_loop1 (fun (i : Nat) => ([(0, ow d), (1, .d (.int .i64 a)), (4, cmpV), (12, .d (.int .i64 i)), (13, .d (.int .i64 j))], [(1000, bq m)])) (fun i => a < i ∧ i ≤ b + 1 ∧ Go.Sort.scanUp (fun x => ltQ x m[a]!) m j i = i2) (fun i => j + 1 - i) (a + 1) ⟨by omega, by omega, hi2⟩ ⟨rfl, rfl, rfl, iv (by omega), iv (by omega), rfl⟩ ⟨rfl, trivial⟩ (fun i hi => ?_)
    obtain ⟨g1, g3, g4⟩ := hi
    clear hi2
    by_cases c1 : i ≤ j
    · rw [scanUp_at _ _ _ _ c1] at g4
      try dsimp only at g4
      obtain ⟨u, u1, u2, hu, c⟩ := cmpR (m.toList.getD i 0) (m.toList.getD a 0) (hm.get (by omega)) (hm.get (by omega))
      rw [getQ, getQ] at hu
      by_cases g : ltQ m[i]! m[a]! = true
      · rw [g, if_pos rfl] at g4
        have g2 := hu.2 g
        clear hu g
        repeat' (first
          | (show awpL _ _ _ _ _; first | refine goL ?_ | refine cl 65 tt rfl rfl rfl (hr := c) (k := ?_) | (refine gdLG ?_ ?_ <;> intro _ <;> try (exfalso; omega)))
          | (show awp _ _ _ _; first | refine goA ?_ | refine rg 1 14 ?_ | refine rg 3 13 ?_ | refine rg 5 13 ?_ | refine rg 8 14 ?_ | refine rg 10 14 ?_ | refine rg 13 13 ?_ | refine rg 15 13 ?_ | refine rg 18 14 ?_ | refine rg 21 14 ?_ | (refine cdG ?_ ?_ <;> intro _ <;> try (exfalso; omega)))
          | (show andThen _ _ _ _; refine goN ?_)
          | (show inBlock _ _ _ _; refine goB ?_)
          | (show awpR _ _ _ _ _ _ _; first | refine goR ?_ | refine clR 65 tt rfl rfl rfl (hr := c) (k := ?_) | (refine gdRG ?_ ?_ <;> intro _ <;> try (exfalso; omega)))
          | (show retPost _ _ _ _ _; refine finG ?_)
          | (show retPostB _ _ _ _ _ _; first | refine finB rfl rfl ?_ ?_ | refine finBT rfl rfl rfl ?_ ?_))
        exact ⟨i + 1, ⟨by omega, by omega, g4⟩, by omega, ⟨rfl, rfl, rfl, iv (by omega), iv (by omega), rfl⟩, rfl, trivial⟩
      · rw [Bool.eq_false_iff.2 g, if_neg (by decide)] at g4
        have g2 := mt hu.1 g
        clear hu g
        repeat' (first
          | (show awpL _ _ _ _ _; first | refine goL ?_ | refine cl 65 tt rfl rfl rfl (hr := c) (k := ?_) | (refine gdLG ?_ ?_ <;> intro _ <;> try (exfalso; omega)))
          | (show awp _ _ _ _; first | refine goA ?_ | refine rg 1 14 ?_ | refine rg 3 13 ?_ | refine rg 5 13 ?_ | refine rg 8 14 ?_ | refine rg 10 14 ?_ | refine rg 13 13 ?_ | refine rg 15 13 ?_ | refine rg 18 14 ?_ | refine rg 21 14 ?_ | (refine cdG ?_ ?_ <;> intro _ <;> try (exfalso; omega)))
          | (show andThen _ _ _ _; refine goN ?_)
          | (show inBlock _ _ _ _; refine goB ?_)
          | (show awpR _ _ _ _ _ _ _; first | refine goR ?_ | refine clR 65 tt rfl rfl rfl (hr := c) (k := ?_) | (refine gdRG ?_ ?_ <;> intro _ <;> try (exfalso; omega)))
          | (show retPost _ _ _ _ _; refine finG ?_)
          | (show retPostB _ _ _ _ _ _; first | refine finB rfl rfl ?_ ?_ | refine finBT rfl rfl rfl ?_ ?_))
        exact ⟨(), trivial, ⟨rfl, rfl, rfl, iv (by omega), iv (by omega), rfl⟩, rfl, trivial⟩
    · rw [scanUp_stop _ _ _ _ c1] at g4
      repeat' (first
        | (show awpL _ _ _ _ _; first | refine goL ?_ | (refine gdLG ?_ ?_ <;> intro _ <;> try (exfalso; omega)))
        | (show awp _ _ _ _; first | refine goA ?_ | refine rg 1 14 ?_ | refine rg 3 13 ?_ | refine rg 5 13 ?_ | refine rg 8 14 ?_ | refine rg 10 14 ?_ | refine rg 13 13 ?_ | refine rg 15 13 ?_ | refine rg 18 14 ?_ | refine rg 21 14 ?_ | (refine cdG ?_ ?_ <;> intro _ <;> try (exfalso; omega)))
        | (show andThen _ _ _ _; refine goN ?_)
        | (show inBlock _ _ _ _; refine goB ?_)
        | (show awpR _ _ _ _ _ _ _; first | refine goR ?_ | (refine gdRG ?_ ?_ <;> intro _ <;> try (exfalso; omega)))
        | (show retPost _ _ _ _ _; refine finG ?_)
        | (show retPostB _ _ _ _ _ _; first | refine finB rfl rfl ?_ ?_ | refine finBT rfl rfl rfl ?_ ?_))
      exact ⟨(), trivial, ⟨rfl, rfl, rfl, iv (by omega), iv (by omega), rfl⟩, rfl, trivial⟩
  repeat' (first
    | (show awpL _ _ _ _ _; first | refine goL ?_ | (refine gdLG ?_ ?_ <;> intro _ <;> try (exfalso; omega)))
    | (show awp _ _ _ _; first | refine stopA 5 tt ?_)
    | (show awp _ _ _ _; first | refine goA ?_ | refine rg 1 14 ?_ | refine rg 3 13 ?_ | refine rg 5 13 ?_ | refine rg 8 14 ?_ | refine rg 10 14 ?_ | refine rg 13 13 ?_ | refine rg 15 13 ?_ | refine rg 18 14 ?_ | refine rg 21 14 ?_ | (refine cdG ?_ ?_ <;> intro _ <;> try (exfalso; omega)))
    | (show andThen _ _ _ _; refine goN ?_)
    | (show inBlock _ _ _ _; refine goB ?_)
    | (show awpR _ _ _ _ _ _ _; first | refine goR ?_ | (refine gdRG ?_ ?_ <;> intro _ <;> try (exfalso; omega)))
    | (show retPost _ _ _ _ _; refine finG ?_)
    | (show retPostB _ _ _ _ _ _; first | refine finB rfl rfl ?_ ?_ | refine finBT rfl rfl rfl ?_ ?_))
  refine stopOut ?_
  refine awp_meet1 (fun (_ : Unit) => ([(0, ow d), (1, .d (.int .i64 a)), (4, cmpV), (12, .d (.int .i64 i2)), (13, .d (.int .i64 j2))], [(1000, bq m)])) (fun _ => True) (fun _ _ => ?_) ?_
  rotate_left
  · repeat' (first
      | (show awpL _ _ _ _ _; first | refine goL ?_ | (refine gdLG ?_ ?_ <;> intro _ <;> try (exfalso; omega)))
      | (show awp _ _ _ _; first | refine goA ?_ | refine rg 1 14 ?_ | refine rg 3 13 ?_ | refine rg 5 13 ?_ | refine rg 8 14 ?_ | refine rg 10 14 ?_ | refine rg 13 13 ?_ | refine rg 15 13 ?_ | refine rg 18 14 ?_ | refine rg 21 14 ?_ | (refine cdG ?_ ?_ <;> intro _ <;> try (exfalso; omega)))
      | (show andThen _ _ _ _; refine goN ?_)
      | (show inBlock _ _ _ _; refine goB ?_)
      | (show awpR _ _ _ _ _ _ _; first | refine goR ?_ | (refine gdRG ?_ ?_ <;> intro _ <;> try (exfalso; omega)))
      | (show retPost _ _ _ _ _; refine finG ?_)
      | (show retPostB _ _ _ _ _ _; first | refine finB rfl rfl ?_ ?_ | refine finBT rfl rfl rfl ?_ ?_))
    refine awp_loop1 (fun (j : Nat) => ([(0, ow d), (1, .d (.int .i64 a)), (4, cmpV), (12, .d (.int .i64 i2)), (13, .d (.int .i64 j))], [(1000, bq m)])) (fun j => j < b ∧ Go.Sort.scanDown (fun x => !ltQ x m[a]!) m i2 j = j2) (fun j => j) j ⟨by omega, hj2⟩ ⟨rfl, rfl, rfl, iv (by omega), iv (by omega), rfl⟩ ⟨rfl, trivial⟩ (fun j hj => ?_)
    obtain ⟨g1, g4⟩ := hj
    clear hj2
    by_cases c1 : i2 ≤ j
    · obtain ⟨t, rfl⟩ : ∃ t, j = t + 1 := ⟨j - 1, by omega⟩
      rw [scanDown_at _ _ _ _ c1] at g4
      try dsimp only at g4
      obtain ⟨u, u1, u2, hu, c⟩ := cmpR (m.toList.getD (t + 1) 0) (m.toList.getD a 0) (hm.get (by omega)) (hm.get (by omega))
      rw [getQ, getQ] at hu
      by_cases g : ltQ m[(t + 1)]! m[a]! = true
      · rw [g, Bool.not_true, if_neg (by decide)] at g4
        have g2 := hu.2 g
        clear hu g
        repeat' (first
          | (show awpL _ _ _ _ _; first | refine goL ?_ | refine cl 65 tt rfl rfl rfl (hr := c) (k := ?_) | (refine gdLG ?_ ?_ <;> intro _ <;> try (exfalso; omega)))
          | (show awp _ _ _ _; first | refine goA ?_ | refine rg 1 14 ?_ | refine rg 3 13 ?_ | refine rg 5 13 ?_ | refine rg 8 14 ?_ | refine rg 10 14 ?_ | refine rg 13 13 ?_ | refine rg 15 13 ?_ | refine rg 18 14 ?_ | refine rg 21 14 ?_ | (refine cdG ?_ ?_ <;> intro _ <;> try (exfalso; omega)))
          | (show andThen _ _ _ _; refine goN ?_)
          | (show inBlock _ _ _ _; refine goB ?_)
          | (show awpR _ _ _ _ _ _ _; first | refine goR ?_ | refine clR 65 tt rfl rfl rfl (hr := c) (k := ?_) | (refine gdRG ?_ ?_ <;> intro _ <;> try (exfalso; omega)))
          | (show retPost _ _ _ _ _; refine finG ?_)
          | (show retPostB _ _ _ _ _ _; first | refine finB rfl rfl ?_ ?_ | refine finBT rfl rfl rfl ?_ ?_))
        exact ⟨(), trivial, ⟨rfl, rfl, rfl, iv (by omega), iv (by omega), rfl⟩, rfl, trivial⟩
      · rw [Bool.eq_false_iff.2 g, Bool.not_false, if_pos rfl] at g4
        have g2 := mt hu.1 g
        clear hu g
        repeat' (first
          | (show awpL _ _ _ _ _; first | refine goL ?_ | refine cl 65 tt rfl rfl rfl (hr := c) (k := ?_) | (refine gdLG ?_ ?_ <;> intro _ <;> try (exfalso; omega)))
          | (show awp _ _ _ _; first | refine goA ?_ | refine rg 1 14 ?_ | refine rg 3 13 ?_ | refine rg 5 13 ?_ | refine rg 8 14 ?_ | refine rg 10 14 ?_ | refine rg 13 13 ?_ | refine rg 15 13 ?_ | refine rg 18 14 ?_ | refine rg 21 14 ?_ | (refine cdG ?_ ?_ <;> intro _ <;> try (exfalso; omega)))
          | (show andThen _ _ _ _; refine goN ?_)
          | (show inBlock _ _ _ _; refine goB ?_)
          | (show awpR _ _ _ _ _ _ _; first | refine goR ?_ | refine clR 65 tt rfl rfl rfl (hr := c) (k := ?_) | (refine gdRG ?_ ?_ <;> intro _ <;> try (exfalso; omega)))
          | (show retPost _ _ _ _ _; refine finG ?_)
          | (show retPostB _ _ _ _ _ _; first | refine finB rfl rfl ?_ ?_ | refine finBT rfl rfl rfl ?_ ?_))
        exact ⟨t, ⟨by omega, g4⟩, by omega, ⟨rfl, rfl, rfl, iv (by omega), iv (by omega), rfl⟩, rfl, trivial⟩
    · rw [scanDown_stop _ _ _ _ c1] at g4
      repeat' (first
        | (show awpL _ _ _ _ _; first | refine goL ?_ | (refine gdLG ?_ ?_ <;> intro _ <;> try (exfalso; omega)))
        | (show awp _ _ _ _; first | refine goA ?_ | refine rg 1 14 ?_ | refine rg 3 13 ?_ | refine rg 5 13 ?_ | refine rg 8 14 ?_ | refine rg 10 14 ?_ | refine rg 13 13 ?_ | refine rg 15 13 ?_ | refine rg 18 14 ?_ | refine rg 21 14 ?_ | (refine cdG ?_ ?_ <;> intro _ <;> try (exfalso; omega)))
        | (show andThen _ _ _ _; refine goN ?_)
        | (show inBlock _ _ _ _; refine goB ?_)
        | (show awpR _ _ _ _ _ _ _; first | refine goR ?_ | (refine gdRG ?_ ?_ <;> intro _ <;> try (exfalso; omega)))
        | (show retPost _ _ _ _ _; refine finG ?_)
        | (show retPostB _ _ _ _ _ _; first | refine finB rfl rfl ?_ ?_ | refine finBT rfl rfl rfl ?_ ?_))
      exact ⟨(), trivial, ⟨rfl, rfl, rfl, iv (by omega), iv (by omega), rfl⟩, rfl, trivial⟩
  clear hw hi2 hj2
  by_cases c1 : i2 > j2
  · rw [if_pos c1] at hR
    subst hR
    repeat' (first
      | (show awpL _ _ _ _ _; first | refine goL ?_ | (refine gdLG ?_ ?_ <;> intro _ <;> try (exfalso; omega)))
      | (show awp _ _ _ _; first | refine goA ?_ | refine rg 1 14 ?_ | refine rg 3 13 ?_ | refine rg 5 13 ?_ | refine rg 8 14 ?_ | refine rg 10 14 ?_ | refine rg 13 13 ?_ | refine rg 15 13 ?_ | refine rg 18 14 ?_ | refine rg 21 14 ?_ | (refine cdG ?_ ?_ <;> intro _ <;> try (exfalso; omega)))
      | (show andThen _ _ _ _; refine goN ?_)
      | (show inBlock _ _ _ _; refine goB ?_)
      | (show awpR _ _ _ _ _ _ _; first | refine goR ?_ | (refine gdRG ?_ ?_ <;> intro _ <;> try (exfalso; omega)))
      | (show retPost _ _ _ _ _; refine finG ?_)
      | (show retPostB _ _ _ _ _ _; first | refine finB rfl rfl ?_ ?_ | refine finBT rfl rfl rfl ?_ ?_))
    all_goals first | exact leVT | exact ⟨blkSw, trivial⟩
  · rw [if_neg c1] at hR
    have hs3 : (Go.Sort.swp m i2 j2).size = m.size := Go.Sort.size_swp ..
    have hm3 := hm.swp (i := i2) (j := j2) (by omega) (by omega)
    have hw3 := blkSw (ty := 27) (sz := 3) (e := qC) (z := 0) (d := m) (i := i2) (j := j2) (a := i2) (b := j2) (a' := i2) (b' := j2)
    generalize Go.Sort.swp m i2 j2 = m3 at *
    have hml3 : m3.toList.length = m3.size := Array.length_toList
    obtain ⟨L, hL⟩ : ∃ L, Go.Sort.partLoop ltQ a (i2 + 1) (j2 - 1) m3 = L := ⟨_, rfl⟩
    rw [hL] at hR
    repeat' (first
      | (show awpL _ _ _ _ _; first | refine goL ?_ | (refine gdLG ?_ ?_ <;> intro _ <;> try (exfalso; omega)))
      | (show awp _ _ _ _; first | refine goA ?_ | refine rg 1 14 ?_ | refine rg 3 13 ?_ | refine rg 5 13 ?_ | refine rg 8 14 ?_ | refine rg 10 14 ?_ | refine rg 13 13 ?_ | refine rg 15 13 ?_ | refine rg 18 14 ?_ | refine rg 21 14 ?_ | (refine cdG ?_ ?_ <;> intro _ <;> try (exfalso; omega)))
      | (show andThen _ _ _ _; refine goN ?_)
      | (show inBlock _ _ _ _; refine goB ?_)
      | (show awpR _ _ _ _ _ _ _; first | refine goR ?_ | (refine gdRG ?_ ?_ <;> intro _ <;> try (exfalso; omega)))
      | (show retPost _ _ _ _ _; refine finG ?_)
      | (show retPostB _ _ _ _ _ _; first | refine finB rfl rfl ?_ ?_ | refine finBT rfl rfl rfl ?_ ?_))
    refine awp_loop3 (fun (k : Array Rat) (i j : Nat) => ([(0, ow d), (1, .d (.int .i64 a)), (4, cmpV), (12, .d (.int .i64 i)), (13, .d (.int .i64 j))], [(1000, bq k)])) (fun k i j => k.size = d.size ∧ AllOk k ∧ a < i ∧ i ≤ j + 1 ∧ j < b ∧ Go.Sort.partLoop ltQ a i j k = L) (fun k i j => j + 1 - i) m3 (i2 + 1) (j2 - 1) ⟨by omega, hm3, by omega, ?_, by omega, hL⟩ ⟨rfl, rfl, rfl, iv (by omega), iv (by omega), rfl⟩ ⟨hw3, trivial⟩ (fun k i j hi => ?_)
    · omega
    obtain ⟨q1, q2, q3, q4, q5, q6⟩ := hi
    have hkl : k.toList.length = k.size := Array.length_toList
    clear hL hd hm hm3 hw3
    rw [Go.Sort.partLoop_eq] at q6
    obtain ⟨i4, hi4⟩ : ∃ i4, Go.Sort.scanUp (fun x => ltQ x k[a]!) k j i = i4 := ⟨_, rfl⟩
    rw [hi4] at q6
    obtain ⟨j4, hj4⟩ : ∃ j4, Go.Sort.scanDown (fun x => !ltQ x k[a]!) k i4 j = j4 := ⟨_, rfl⟩
    rw [hj4] at q6
    have b1 := Go.Sort.scanUp_ge (fun x => ltQ x k[a]!) k j i
    have b3 := Go.Sort.scanUp_spec (fun x => ltQ x k[a]!) k j _ i rfl
    rw [hi4] at b1 b3
    have b5 := b3.2.1 q4
    have b2 := Go.Sort.scanDown_le (fun x => !ltQ x k[a]!) k i4 j
    have b4 := Go.Sort.scanDown_spec (fun x => !ltQ x k[a]!) k i4 j
    rw [hj4] at b2 b4
    have b6 := b4.2.1 (by omega)
    have b7 : i4 ≤ j4 → i4 < j4 := fun h => by
      rcases Nat.lt_or_eq_of_le h with h | h
      · exact h
      · have x1 := b3.2.2.2 (by omega)
        have x2 := b4.2.2.2 (Nat.le_of_eq h) (by omega)
        rw [← h, x1] at x2
        exact absurd x2 (by decide)
    clear b3 b4
    repeat' (first
      | (show awpL _ _ _ _ _; first | refine goL ?_ | (refine gdLG ?_ ?_ <;> intro _ <;> try (exfalso; omega)))
      | (show awp _ _ _ _; first | refine stopA 13 tt ?_)
      | (show awp _ _ _ _; first | refine goA ?_ | refine rg 1 14 ?_ | refine rg 3 13 ?_ | refine rg 5 13 ?_ | refine rg 8 14 ?_ | refine rg 10 14 ?_ | refine rg 13 13 ?_ | refine rg 15 13 ?_ | refine rg 18 14 ?_ | refine rg 21 14 ?_ | (refine cdG ?_ ?_ <;> intro _ <;> try (exfalso; omega)))
      | (show andThen _ _ _ _; refine goN ?_)
      | (show inBlock _ _ _ _; refine goB ?_)
      | (show awpR _ _ _ _ _ _ _; first | refine goR ?_ | (refine gdRG ?_ ?_ <;> intro _ <;> try (exfalso; omega)))
      | (show retPost _ _ _ _ _; refine finG ?_)
      | (show retPostB _ _ _ _ _ _; first | refine finB rfl rfl ?_ ?_ | refine finBT rfl rfl rfl ?_ ?_))
    refine stopOut ?_
    refine goA ?_
    refine awp_meet1 (fun (_ : Unit) => ([(0, ow d), (1, .d (.int .i64 a)), (4, cmpV), (12, .d (.int .i64 i4)), (13, .d (.int .i64 j))], [(1000, bq k)])) (fun _ => True) (fun _ _ => ?_) ?_
    rotate_left
    · repeat' (first
        | (show awpL _ _ _ _ _; first | refine goL ?_ | (refine gdLG ?_ ?_ <;> intro _ <;> try (exfalso; omega)))
        | (show awp _ _ _ _; first | refine goA ?_ | refine rg 1 14 ?_ | refine rg 3 13 ?_ | refine rg 5 13 ?_ | refine rg 8 14 ?_ | refine rg 10 14 ?_ | refine rg 13 13 ?_ | refine rg 15 13 ?_ | refine rg 18 14 ?_ | refine rg 21 14 ?_ | (refine cdG ?_ ?_ <;> intro _ <;> try (exfalso; omega)))
        | (show andThen _ _ _ _; refine goN ?_)
        | (show inBlock _ _ _ _; refine goB ?_)
        | (show awpR _ _ _ _ _ _ _; first | refine goR ?_ | (refine gdRG ?_ ?_ <;> intro _ <;> try (exfalso; omega)))
        | (show retPost _ _ _ _ _; refine finG ?_)
        | (show retPostB _ _ _ _ _ _; first | refine finB rfl rfl ?_ ?_ | refine finBT rfl rfl rfl ?_ ?_))
      refine awp_loop1 (fun (i : Nat) => ([(0, ow d), (1, .d (.int .i64 a)), (4, cmpV), (12, .d (.int .i64 i)), (13, .d (.int .i64 j))], [(1000, bq k)])) (fun i => a < i ∧ i ≤ b + 1 ∧ Go.Sort.scanUp (fun x => ltQ x k[a]!) k j i = i4) (fun i => j + 1 - i) i ⟨by omega, by omega, hi4⟩ ⟨rfl, rfl, rfl, iv (by omega), iv (by omega), rfl⟩ ⟨rfl, trivial⟩ (fun i hi => ?_)
      obtain ⟨g1, g3, g4⟩ := hi
      clear hi4
      by_cases c1 : i ≤ j
      · rw [scanUp_at _ _ _ _ c1] at g4
        try dsimp only at g4
        obtain ⟨u, u1, u2, hu, c⟩ := cmpR (k.toList.getD i 0) (k.toList.getD a 0) (q2.get (by omega)) (q2.get (by omega))
        rw [getQ, getQ] at hu
        by_cases g : ltQ k[i]! k[a]! = true
        · rw [g, if_pos rfl] at g4
          have g2 := hu.2 g
          clear hu g
          repeat' (first
            | (show awpL _ _ _ _ _; first | refine goL ?_ | refine cl 65 tt rfl rfl rfl (hr := c) (k := ?_) | (refine gdLG ?_ ?_ <;> intro _ <;> try (exfalso; omega)))
            | (show awp _ _ _ _; first | refine goA ?_ | refine rg 1 14 ?_ | refine rg 3 13 ?_ | refine rg 5 13 ?_ | refine rg 8 14 ?_ | refine rg 10 14 ?_ | refine rg 13 13 ?_ | refine rg 15 13 ?_ | refine rg 18 14 ?_ | refine rg 21 14 ?_ | (refine cdG ?_ ?_ <;> intro _ <;> try (exfalso; omega)))
            | (show andThen _ _ _ _; refine goN ?_)
            | (show inBlock _ _ _ _; refine goB ?_)
            | (show awpR _ _ _ _ _ _ _; first | refine goR ?_ | refine clR 65 tt rfl rfl rfl (hr := c) (k := ?_) | (refine gdRG ?_ ?_ <;> intro _ <;> try (exfalso; omega)))
            | (show retPost _ _ _ _ _; refine finG ?_)
            | (show retPostB _ _ _ _ _ _; first | refine finB rfl rfl ?_ ?_ | refine finBT rfl rfl rfl ?_ ?_))
          exact ⟨i + 1, ⟨by omega, by omega, g4⟩, by omega, ⟨rfl, rfl, rfl, iv (by omega), iv (by omega), rfl⟩, rfl, trivial⟩
        · rw [Bool.eq_false_iff.2 g, if_neg (by decide)] at g4
          have g2 := mt hu.1 g
          clear hu g
          repeat' (first
            | (show awpL _ _ _ _ _; first | refine goL ?_ | refine cl 65 tt rfl rfl rfl (hr := c) (k := ?_) | (refine gdLG ?_ ?_ <;> intro _ <;> try (exfalso; omega)))
            | (show awp _ _ _ _; first | refine goA ?_ | refine rg 1 14 ?_ | refine rg 3 13 ?_ | refine rg 5 13 ?_ | refine rg 8 14 ?_ | refine rg 10 14 ?_ | refine rg 13 13 ?_ | refine rg 15 13 ?_ | refine rg 18 14 ?_ | refine rg 21 14 ?_ | (refine cdG ?_ ?_ <;> intro _ <;> try (exfalso; omega)))
            | (show andThen _ _ _ _; refine goN ?_)
            | (show inBlock _ _ _ _; refine goB ?_)
            | (show awpR _ _ _ _ _ _ _; first | refine goR ?_ | refine clR 65 tt rfl rfl rfl (hr := c) (k := ?_) | (refine gdRG ?_ ?_ <;> intro _ <;> try (exfalso; omega)))
            | (show retPost _ _ _ _ _; refine finG ?_)
            | (show retPostB _ _ _ _ _ _; first | refine finB rfl rfl ?_ ?_ | refine finBT rfl rfl rfl ?_ ?_))
          exact ⟨(), trivial, ⟨rfl, rfl, rfl, iv (by omega), iv (by omega), rfl⟩, rfl, trivial⟩
      · rw [scanUp_stop _ _ _ _ c1] at g4
        repeat' (first
          | (show awpL _ _ _ _ _; first | refine goL ?_ | (refine gdLG ?_ ?_ <;> intro _ <;> try (exfalso; omega)))
          | (show awp _ _ _ _; first | refine goA ?_ | refine rg 1 14 ?_ | refine rg 3 13 ?_ | refine rg 5 13 ?_ | refine rg 8 14 ?_ | refine rg 10 14 ?_ | refine rg 13 13 ?_ | refine rg 15 13 ?_ | refine rg 18 14 ?_ | refine rg 21 14 ?_ | (refine cdG ?_ ?_ <;> intro _ <;> try (exfalso; omega)))
          | (show andThen _ _ _ _; refine goN ?_)
          | (show inBlock _ _ _ _; refine goB ?_)
          | (show awpR _ _ _ _ _ _ _; first | refine goR ?_ | (refine gdRG ?_ ?_ <;> intro _ <;> try (exfalso; omega)))
          | (show retPost _ _ _ _ _; refine finG ?_)
          | (show retPostB _ _ _ _ _ _; first | refine finB rfl rfl ?_ ?_ | refine finBT rfl rfl rfl ?_ ?_))
        exact ⟨(), trivial, ⟨rfl, rfl, rfl, iv (by omega), iv (by omega), rfl⟩, rfl, trivial⟩
    repeat' (first
      | (show awpL _ _ _ _ _; first | refine goL ?_ | (refine gdLG ?_ ?_ <;> intro _ <;> try (exfalso; omega)))
      | (show awp _ _ _ _; first | refine stopA 15 tt ?_)
      | (show awp _ _ _ _; first | refine goA ?_ | refine rg 1 14 ?_ | refine rg 3 13 ?_ | refine rg 5 13 ?_ | refine rg 8 14 ?_ | refine rg 10 14 ?_ | refine rg 13 13 ?_ | refine rg 15 13 ?_ | refine rg 18 14 ?_ | refine rg 21 14 ?_ | (refine cdG ?_ ?_ <;> intro _ <;> try (exfalso; omega)))
      | (show andThen _ _ _ _; refine goN ?_)
      | (show inBlock _ _ _ _; refine goB ?_)
      | (show awpR _ _ _ _ _ _ _; first | refine goR ?_ | (refine gdRG ?_ ?_ <;> intro _ <;> try (exfalso; omega)))
      | (show retPost _ _ _ _ _; refine finG ?_)
      | (show retPostB _ _ _ _ _ _; first | refine finB rfl rfl ?_ ?_ | refine finBT rfl rfl rfl ?_ ?_))
    refine stopOut ?_
    refine awp_meet1 (fun (_ : Unit) => ([(0, ow d), (1, .d (.int .i64 a)), (4, cmpV), (12, .d (.int .i64 i4)), (13, .d (.int .i64 j4))], [(1000, bq k)])) (fun _ => True) (fun _ _ => ?_) ?_
    rotate_left
    · repeat' (first
        | (show awpL _ _ _ _ _; first | refine goL ?_ | (refine gdLG ?_ ?_ <;> intro _ <;> try (exfalso; omega)))
        | (show awp _ _ _ _; first | refine goA ?_ | refine rg 1 14 ?_ | refine rg 3 13 ?_ | refine rg 5 13 ?_ | refine rg 8 14 ?_ | refine rg 10 14 ?_ | refine rg 13 13 ?_ | refine rg 15 13 ?_ | refine rg 18 14 ?_ | refine rg 21 14 ?_ | (refine cdG ?_ ?_ <;> intro _ <;> try (exfalso; omega)))
        | (show andThen _ _ _ _; refine goN ?_)
        | (show inBlock _ _ _ _; refine goB ?_)
        | (show awpR _ _ _ _ _ _ _; first | refine goR ?_ | (refine gdRG ?_ ?_ <;> intro _ <;> try (exfalso; omega)))
        | (show retPost _ _ _ _ _; refine finG ?_)
        | (show retPostB _ _ _ _ _ _; first | refine finB rfl rfl ?_ ?_ | refine finBT rfl rfl rfl ?_ ?_))
      refine awp_loop1 (fun (j : Nat) => ([(0, ow d), (1, .d (.int .i64 a)), (4, cmpV), (12, .d (.int .i64 i4)), (13, .d (.int .i64 j))], [(1000, bq k)])) (fun j => j < b ∧ Go.Sort.scanDown (fun x => !ltQ x k[a]!) k i4 j = j4) (fun j => j) j ⟨by omega, hj4⟩ ⟨rfl, rfl, rfl, iv (by omega), iv (by omega), rfl⟩ ⟨rfl, trivial⟩ (fun j hj => ?_)
      obtain ⟨g1, g4⟩ := hj
      clear hj4
      by_cases c1 : i4 ≤ j
      · obtain ⟨t, rfl⟩ : ∃ t, j = t + 1 := ⟨j - 1, by omega⟩
        rw [scanDown_at _ _ _ _ c1] at g4
        try dsimp only at g4
        obtain ⟨u, u1, u2, hu, c⟩ := cmpR (k.toList.getD (t + 1) 0) (k.toList.getD a 0) (q2.get (by omega)) (q2.get (by omega))
        rw [getQ, getQ] at hu
        by_cases g : ltQ k[(t + 1)]! k[a]! = true
        · rw [g, Bool.not_true, if_neg (by decide)] at g4
          have g2 := hu.2 g
          clear hu g
          repeat' (first
            | (show awpL _ _ _ _ _; first | refine goL ?_ | refine cl 65 tt rfl rfl rfl (hr := c) (k := ?_) | (refine gdLG ?_ ?_ <;> intro _ <;> try (exfalso; omega)))
            | (show awp _ _ _ _; first | refine goA ?_ | refine rg 1 14 ?_ | refine rg 3 13 ?_ | refine rg 5 13 ?_ | refine rg 8 14 ?_ | refine rg 10 14 ?_ | refine rg 13 13 ?_ | refine rg 15 13 ?_ | refine rg 18 14 ?_ | refine rg 21 14 ?_ | (refine cdG ?_ ?_ <;> intro _ <;> try (exfalso; omega)))
            | (show andThen _ _ _ _; refine goN ?_)
            | (show inBlock _ _ _ _; refine goB ?_)
            | (show awpR _ _ _ _ _ _ _; first | refine goR ?_ | refine clR 65 tt rfl rfl rfl (hr := c) (k := ?_) | (refine gdRG ?_ ?_ <;> intro _ <;> try (exfalso; omega)))
            | (show retPost _ _ _ _ _; refine finG ?_)
            | (show retPostB _ _ _ _ _ _; first | refine finB rfl rfl ?_ ?_ | refine finBT rfl rfl rfl ?_ ?_))
          exact ⟨(), trivial, ⟨rfl, rfl, rfl, iv (by omega), iv (by omega), rfl⟩, rfl, trivial⟩
        · rw [Bool.eq_false_iff.2 g, Bool.not_false, if_pos rfl] at g4
          have g2 := mt hu.1 g
          clear hu g
          repeat' (first
            | (show awpL _ _ _ _ _; first | refine goL ?_ | refine cl 65 tt rfl rfl rfl (hr := c) (k := ?_) | (refine gdLG ?_ ?_ <;> intro _ <;> try (exfalso; omega)))
            | (show awp _ _ _ _; first | refine goA ?_ | refine rg 1 14 ?_ | refine rg 3 13 ?_ | refine rg 5 13 ?_ | refine rg 8 14 ?_ | refine rg 10 14 ?_ | refine rg 13 13 ?_ | refine rg 15 13 ?_ | refine rg 18 14 ?_ | refine rg 21 14 ?_ | (refine cdG ?_ ?_ <;> intro _ <;> try (exfalso; omega)))
            | (show andThen _ _ _ _; refine goN ?_)
            | (show inBlock _ _ _ _; refine goB ?_)
            | (show awpR _ _ _ _ _ _ _; first | refine goR ?_ | refine clR 65 tt rfl rfl rfl (hr := c) (k := ?_) | (refine gdRG ?_ ?_ <;> intro _ <;> try (exfalso; omega)))
            | (show retPost _ _ _ _ _; refine finG ?_)
            | (show retPostB _ _ _ _ _ _; first | refine finB rfl rfl ?_ ?_ | refine finBT rfl rfl rfl ?_ ?_))
          exact ⟨t, ⟨by omega, g4⟩, by omega, ⟨rfl, rfl, rfl, iv (by omega), iv (by omega), rfl⟩, rfl, trivial⟩
      · rw [scanDown_stop _ _ _ _ c1] at g4
        repeat' (first
          | (show awpL _ _ _ _ _; first | refine goL ?_ | (refine gdLG ?_ ?_ <;> intro _ <;> try (exfalso; omega)))
          | (show awp _ _ _ _; first | refine goA ?_ | refine rg 1 14 ?_ | refine rg 3 13 ?_ | refine rg 5 13 ?_ | refine rg 8 14 ?_ | refine rg 10 14 ?_ | refine rg 13 13 ?_ | refine rg 15 13 ?_ | refine rg 18 14 ?_ | refine rg 21 14 ?_ | (refine cdG ?_ ?_ <;> intro _ <;> try (exfalso; omega)))
          | (show andThen _ _ _ _; refine goN ?_)
          | (show inBlock _ _ _ _; refine goB ?_)
          | (show awpR _ _ _ _ _ _ _; first | refine goR ?_ | (refine gdRG ?_ ?_ <;> intro _ <;> try (exfalso; omega)))
          | (show retPost _ _ _ _ _; refine finG ?_)
          | (show retPostB _ _ _ _ _ _; first | refine finB rfl rfl ?_ ?_ | refine finBT rfl rfl rfl ?_ ?_))
        exact ⟨(), trivial, ⟨rfl, rfl, rfl, iv (by omega), iv (by omega), rfl⟩, rfl, trivial⟩
    by_cases c2 : i4 > j4
    · rw [if_pos c2] at q6
      subst q6
      subst hR
      repeat' (first
        | (show awpL _ _ _ _ _; first | refine goL ?_ | (refine gdLG ?_ ?_ <;> intro _ <;> try (exfalso; omega)))
        | (show awp _ _ _ _; first | refine goA ?_ | refine rg 1 14 ?_ | refine rg 3 13 ?_ | refine rg 5 13 ?_ | refine rg 8 14 ?_ | refine rg 10 14 ?_ | refine rg 13 13 ?_ | refine rg 15 13 ?_ | refine rg 18 14 ?_ | refine rg 21 14 ?_ | (refine cdG ?_ ?_ <;> intro _ <;> try (exfalso; omega)))
        | (show andThen _ _ _ _; refine goN ?_)
        | (show inBlock _ _ _ _; refine goB ?_)
        | (show awpR _ _ _ _ _ _ _; first | refine goR ?_ | (refine gdRG ?_ ?_ <;> intro _ <;> try (exfalso; omega)))
        | (show retPost _ _ _ _ _; refine finG ?_)
        | (show retPostB _ _ _ _ _ _; first | refine finB rfl rfl ?_ ?_ | refine finBT rfl rfl rfl ?_ ?_))
      all_goals first | exact leVT | exact ⟨blkSw, trivial⟩
    · rw [if_neg c2] at q6
      have b8 := b7 (by omega)
      clear b7 hi4 hj4
      repeat' (first
        | (show awpL _ _ _ _ _; first | refine goL ?_ | (refine gdLG ?_ ?_ <;> intro _ <;> try (exfalso; omega)))
        | (show awp _ _ _ _; first | refine goA ?_ | refine rg 1 14 ?_ | refine rg 3 13 ?_ | refine rg 5 13 ?_ | refine rg 8 14 ?_ | refine rg 10 14 ?_ | refine rg 13 13 ?_ | refine rg 15 13 ?_ | refine rg 18 14 ?_ | refine rg 21 14 ?_ | (refine cdG ?_ ?_ <;> intro _ <;> try (exfalso; omega)))
        | (show andThen _ _ _ _; refine goN ?_)
        | (show inBlock _ _ _ _; refine goB ?_)
        | (show awpR _ _ _ _ _ _ _; first | refine goR ?_ | (refine gdRG ?_ ?_ <;> intro _ <;> try (exfalso; omega)))
        | (show retPost _ _ _ _ _; refine finG ?_)
        | (show retPostB _ _ _ _ _ _; first | refine finB rfl rfl ?_ ?_ | refine finBT rfl rfl rfl ?_ ?_))
      exact ⟨Go.Sort.swp k i4 j4, i4 + 1, j4 - 1, ⟨by rw [Go.Sort.size_swp]; exact q1, q2.swp (by omega) (by omega), by omega, by omega, by omega, q6⟩, by omega, ⟨rfl, rfl, rfl, iv (by omega), iv (by omega), rfl⟩, blkSw, trivial⟩
theorem partEq_size (d : Array Rat) {a b p : Nat} (h1 : a ≤ p) (h2 : p < b) (hb : b ≤ d.size) (hge : ∀ i, a ≤ i → i < b → ltQ d[i]! d[p]! = false) : (Go.Sort.partitionEqual ltQ d a b p).2.size = d.size := (Go.Sort.partitionEqual_holds ltQ swoQ d a b p h1 h2 hb hge).2.2.1.1
theorem sl_partitionEq (d : Array Rat) (a b p : Nat) (hd : AllOk d) (hn : d.size < 1000000000) (h1 : a ≤ p) (h2 : p < b) (hb : b ≤ d.size) (hge : ∀ i, a ≤ i → i < b → ltQ d[i]! d[p]! = false) : RetB Tryz.prog 165 [ow d, .d (.int .i64 a), .d (.int .i64 b), .d (.int .i64 p), cmpV] (lookB [(1000, bq d)]) (.d (.int .i64 (Go.Sort.partitionEqual ltQ d a b p).1)) (lookB [(1000, bq (Go.Sort.partitionEqual ltQ d a b p).2)]) := by
  have hl : d.toList.length = d.size := Array.length_toList
  have hr := partEq_size d h1 h2 hb hge
  obtain ⟨R, hR⟩ : ∃ R, Go.Sort.partitionEqual ltQ d a b p = R := ⟨_, rfl⟩
  rw [hR] at hr ⊢
  unfold Go.Sort.partitionEqual at hR
  have hs : (Go.Sort.swp d a p).size = d.size := Go.Sort.size_swp ..
  have hm := hd.swp (i := a) (j := p) (by omega) (by omega)
  have hw := blkSw (ty := 27) (sz := 3) (e := qC) (z := 0) (d := d) (i := a) (j := p) (a := a) (b := p) (a' := a) (b' := p)
  clear hge
  generalize Go.Sort.swp d a p = m at *
  have hml : m.toList.length = m.size := Array.length_toList
  refine retB_of_awp tab [1000] Tryz.func165 rfl rfl rfl (Nat.le_of_ble_eq_true rfl) rfl ⟨by show d.toList.length ≤ R.2.toList.length; simp [hr], trivial⟩ (fun w0 F0 A io0 => ?_)
  repeat' (first
    | (show awpL _ _ _ _ _; first | refine goL ?_ | (refine gdLG ?_ ?_ <;> intro _ <;> try (exfalso; omega)))
    | (show awp _ _ _ _; first | refine goA ?_ | refine rg 1 14 ?_ | refine rg 3 13 ?_ | refine rg 5 13 ?_ | refine rg 8 14 ?_ | (refine cdG ?_ ?_ <;> intro _ <;> try (exfalso; omega)))
    | (show andThen _ _ _ _; refine goN ?_)
    | (show inBlock _ _ _ _; refine goB ?_)
    | (show awpR _ _ _ _ _ _ _; first | refine goR ?_ | (refine gdRG ?_ ?_ <;> intro _ <;> try (exfalso; omega)))
    | (show retPost _ _ _ _ _; refine finG ?_)
    | (show retPostB _ _ _ _ _ _; first | refine finB rfl rfl ?_ ?_ | refine finBT rfl rfl rfl ?_ ?_))
  refine awp_loop3 (fun (k : Array Rat) (i j : Nat) => ([(0, ow d), (1, .d (.int .i64 a)), (4, cmpV), (11, .d (.int .i64 i)), (12, .d (.int .i64 j))], [(1000, bq k)])) (fun k i j => k.size = d.size ∧ AllOk k ∧ a < i ∧ i ≤ j + 1 ∧ j < b ∧ Go.Sort.partEqLoop ltQ a i j k = R) (fun k i j => j + 1 - i) m (a + 1) (b - 1) ⟨by omega, hm, by omega, by omega, by omega, hR⟩ ⟨rfl, rfl, rfl, iv (by omega), iv (by omega), rfl⟩ ⟨hw, trivial⟩ (fun k i j hi => ?_)
  obtain ⟨q1, q2, q3, q4, q5, q6⟩ := hi
  have hkl : k.toList.length = k.size := Array.length_toList
  clear hR hd hm hw
  rw [Go.Sort.partEqLoop_eq] at q6
  obtain ⟨i4, hi4⟩ : ∃ i4, Go.Sort.scanUp (fun x => !ltQ k[a]! x) k j i = i4 := ⟨_, rfl⟩
  rw [hi4] at q6
  obtain ⟨j4, hj4⟩ : ∃ j4, Go.Sort.scanDown (fun x => ltQ k[a]! x) k i4 j = j4 := ⟨_, rfl⟩
  rw [hj4] at q6
  have b1 := Go.Sort.scanUp_ge (fun x => !ltQ k[a]! x) k j i
  have b3 := Go.Sort.scanUp_spec (fun x => !ltQ k[a]! x) k j _ i rfl
  rw [hi4] at b1 b3
  have b5 := b3.2.1 q4
  have b2 := Go.Sort.scanDown_le (fun x => ltQ k[a]! x) k i4 j
  have b4 := Go.Sort.scanDown_spec (fun x => ltQ k[a]! x) k i4 j
  rw [hj4] at b2 b4
  have b6 := b4.2.1 (by omega)
  have b7 : i4 ≤ j4 → i4 < j4 := fun h => by
    rcases Nat.lt_or_eq_of_le h with h | h
    · exact h
    · have x1 := b3.2.2.2 (by omega)
      have x2 := b4.2.2.2 (Nat.le_of_eq h) (by omega)
      try dsimp only at x1 x2
      rw [← h] at x2
      rw [x2] at x1
      exact absurd x1 (by decide)
  clear b3 b4
  repeat' (first
    | (show awpL _ _ _ _ _; first | refine goL ?_ | (refine gdLG ?_ ?_ <;> intro _ <;> try (exfalso; omega)))
    | (show awp _ _ _ _; first | refine stopA 3 tt ?_)
    | (show awp _ _ _ _; first | refine goA ?_ | refine rg 1 14 ?_ | refine rg 3 13 ?_ | refine rg 5 13 ?_ | refine rg 8 14 ?_ | (refine cdG ?_ ?_ <;> intro _ <;> try (exfalso; omega)))
    | (show andThen _ _ _ _; refine goN ?_)
    | (show inBlock _ _ _ _; refine goB ?_)
    | (show awpR _ _ _ _ _ _ _; first | refine goR ?_ | (refine gdRG ?_ ?_ <;> intro _ <;> try (exfalso; omega)))
    | (show retPost _ _ _ _ _; refine finG ?_)
    | (show retPostB _ _ _ _ _ _; first | refine finB rfl rfl ?_ ?_ | refine finBT rfl rfl rfl ?_ ?_))
  refine stopOut ?_
  refine goA ?_
  refine awp_meet1 (fun (_ : Unit) => ([(0, ow d), (1, .d (.int .i64 a)), (4, cmpV), (11, .d (.int .i64 i4)), (12, .d (.int .i64 j))], [(1000, bq k)])) (fun _ => True) (fun _ _ => ?_) ?_
  rotate_left
  · repeat' (first
      | (show awpL _ _ _ _ _; first | refine goL ?_ | (refine gdLG ?_ ?_ <;> intro _ <;> try (exfalso; omega)))
      | (show awp _ _ _ _; first | refine goA ?_ | refine rg 1 14 ?_ | refine rg 3 13 ?_ | refine rg 5 13 ?_ | refine rg 8 14 ?_ | (refine cdG ?_ ?_ <;> intro _ <;> try (exfalso; omega)))
      | (show andThen _ _ _ _; refine goN ?_)
      | (show inBlock _ _ _ _; refine goB ?_)
      | (show awpR _ _ _ _ _ _ _; first | refine goR ?_ | (refine gdRG ?_ ?_ <;> intro _ <;> try (exfalso; omega)))
      | (show retPost _ _ _ _ _; refine finG ?_)
      | (show retPostB _ _ _ _ _ _; first | refine finB rfl rfl ?_ ?_ | refine finBT rfl rfl rfl ?_ ?_))
    refine awp_loop1 (fun (i : Nat) => ([(0, ow d), (1, .d (.int .i64 a)), (4, cmpV), (11, .d (.int .i64 i)), (12, .d (.int .i64 j))], [(1000, bq k)])) (fun i => a < i ∧ i ≤ b + 1 ∧ Go.Sort.scanUp (fun x => !ltQ k[a]! x) k j i = i4) (fun i => j + 1 - i) i ⟨by omega, by omega, hi4⟩ ⟨rfl, rfl, rfl, iv (by omega), iv (by omega), rfl⟩ ⟨rfl, trivial⟩ (fun i hi => ?_)
    obtain ⟨g1, g3, g4⟩ := hi
    clear hi4
    by_cases c1 : i ≤ j
    · rw [scanUp_at _ _ _ _ c1] at g4
      try dsimp only at g4
      obtain ⟨u, u1, u2, hu, c⟩ := cmpR (k.toList.getD a 0) (k.toList.getD i 0) (q2.get (by omega)) (q2.get (by omega))
      rw [getQ, getQ] at hu
      by_cases g : ltQ k[a]! k[i]! = true
      · rw [g, Bool.not_true, if_neg (by decide)] at g4
        have g2 := hu.2 g
        clear hu g
        repeat' (first
          | (show awpL _ _ _ _ _; first | refine goL ?_ | refine cl 65 tt rfl rfl rfl (hr := c) (k := ?_) | (refine gdLG ?_ ?_ <;> intro _ <;> try (exfalso; omega)))
          | (show awp _ _ _ _; first | refine goA ?_ | refine rg 1 14 ?_ | refine rg 3 13 ?_ | refine rg 5 13 ?_ | refine rg 8 14 ?_ | (refine cdG ?_ ?_ <;> intro _ <;> try (exfalso; omega)))
          | (show andThen _ _ _ _; refine goN ?_)
          | (show inBlock _ _ _ _; refine goB ?_)
          | (show awpR _ _ _ _ _ _ _; first | refine goR ?_ | refine clR 65 tt rfl rfl rfl (hr := c) (k := ?_) | (refine gdRG ?_ ?_ <;> intro _ <;> try (exfalso; omega)))
          | (show retPost _ _ _ _ _; refine finG ?_)
          | (show retPostB _ _ _ _ _ _; first | refine finB rfl rfl ?_ ?_ | refine finBT rfl rfl rfl ?_ ?_))
        exact ⟨(), trivial, ⟨rfl, rfl, rfl, iv (by omega), iv (by omega), rfl⟩, rfl, trivial⟩
      · rw [Bool.eq_false_iff.2 g, Bool.not_false, if_pos rfl] at g4
        have g2 := mt hu.1 g
        clear hu g
        repeat' (first
          | (show awpL _ _ _ _ _; first | refine goL ?_ | refine cl 65 tt rfl rfl rfl (hr := c) (k := ?_) | (refine gdLG ?_ ?_ <;> intro _ <;> try (exfalso; omega)))
          | (show awp _ _ _ _; first | refine goA ?_ | refine rg 1 14 ?_ | refine rg 3 13 ?_ | refine rg 5 13 ?_ | refine rg 8 14 ?_ | (refine cdG ?_ ?_ <;> intro _ <;> try (exfalso; omega)))
          | (show andThen _ _ _ _; refine goN ?_)
          | (show inBlock _ _ _ _; refine goB ?_)
          | (show awpR _ _ _ _ _ _ _; first | refine goR ?_ | refine clR 65 tt rfl rfl rfl (hr := c) (k := ?_) | (refine gdRG ?_ ?_ <;> intro _ <;> try (exfalso; omega)))
          | (show retPost _ _ _ _ _; refine finG ?_)
          | (show retPostB _ _ _ _ _ _; first | refine finB rfl rfl ?_ ?_ | refine finBT rfl rfl rfl ?_ ?_))
        exact ⟨i + 1, ⟨by omega, by omega, g4⟩, by omega, ⟨rfl, rfl, rfl, iv (by omega), iv (by omega), rfl⟩, rfl, trivial⟩
    · rw [scanUp_stop _ _ _ _ c1] at g4
      repeat' (first
        | (show awpL _ _ _ _ _; first | refine goL ?_ | (refine gdLG ?_ ?_ <;> intro _ <;> try (exfalso; omega)))
        | (show awp _ _ _ _; first | refine goA ?_ | refine rg 1 14 ?_ | refine rg 3 13 ?_ | refine rg 5 13 ?_ | refine rg 8 14 ?_ | (refine cdG ?_ ?_ <;> intro _ <;> try (exfalso; omega)))
        | (show andThen _ _ _ _; refine goN ?_)
        | (show inBlock _ _ _ _; refine goB ?_)
        | (show awpR _ _ _ _ _ _ _; first | refine goR ?_ | (refine gdRG ?_ ?_ <;> intro _ <;> try (exfalso; omega)))
        | (show retPost _ _ _ _ _; refine finG ?_)
        | (show retPostB _ _ _ _ _ _; first | refine finB rfl rfl ?_ ?_ | refine finBT rfl rfl rfl ?_ ?_))
      exact ⟨(), trivial, ⟨rfl, rfl, rfl, iv (by omega), iv (by omega), rfl⟩, rfl, trivial⟩
  repeat' (first
    | (show awpL _ _ _ _ _; first | refine goL ?_ | (refine gdLG ?_ ?_ <;> intro _ <;> try (exfalso; omega)))
    | (show awp _ _ _ _; first | refine stopA 5 tt ?_)
    | (show awp _ _ _ _; first | refine goA ?_ | refine rg 1 14 ?_ | refine rg 3 13 ?_ | refine rg 5 13 ?_ | refine rg 8 14 ?_ | (refine cdG ?_ ?_ <;> intro _ <;> try (exfalso; omega)))
    | (show andThen _ _ _ _; refine goN ?_)
    | (show inBlock _ _ _ _; refine goB ?_)
    | (show awpR _ _ _ _ _ _ _; first | refine goR ?_ | (refine gdRG ?_ ?_ <;> intro _ <;> try (exfalso; omega)))
    | (show retPost _ _ _ _ _; refine finG ?_)
    | (show retPostB _ _ _ _ _ _; first | refine finB rfl rfl ?_ ?_ | refine finBT rfl rfl rfl ?_ ?_))
  refine stopOut ?_
  refine awp_meet1 (fun (_ : Unit) => ([(0, ow d), (1, .d (.int .i64 a)), (4, cmpV), (11, .d (.int .i64 i4)), (12, .d (.int .i64 j4))], [(1000, bq k)])) (fun _ => True) (fun _ _ => ?_) ?_
  rotate_left
  · repeat' (first
      | (show awpL _ _ _ _ _; first | refine goL ?_ | (refine gdLG ?_ ?_ <;> intro _ <;> try (exfalso; omega)))
      | (show awp _ _ _ _; first | refine goA ?_ | refine rg 1 14 ?_ | refine rg 3 13 ?_ | refine rg 5 13 ?_ | refine rg 8 14 ?_ | (refine cdG ?_ ?_ <;> intro _ <;> try (exfalso; omega)))
      | (show andThen _ _ _ _; refine goN ?_)
      | (show inBlock _ _ _ _; refine goB ?_)
      | (show awpR _ _ _ _ _ _ _; first | refine goR ?_ | (refine gdRG ?_ ?_ <;> intro _ <;> try (exfalso; omega)))
      | (show retPost _ _ _ _ _; refine finG ?_)
      | (show retPostB _ _ _ _ _ _; first | refine finB rfl rfl ?_ ?_ | refine finBT rfl rfl rfl ?_ ?_))
    refine awp_loop1 (fun (j : Nat) => ([(0, ow d), (1, .d (.int .i64 a)), (4, cmpV), (11, .d (.int .i64 i4)), (12, .d (.int .i64 j))], [(1000, bq k)])) (fun j => j < b ∧ Go.Sort.scanDown (fun x => ltQ k[a]! x) k i4 j = j4) (fun j => j) j ⟨by omega, hj4⟩ ⟨rfl, rfl, rfl, iv (by omega), iv (by omega), rfl⟩ ⟨rfl, trivial⟩ (fun j hj => ?_)
    obtain ⟨g1, g4⟩ := hj
    clear hj4
    by_cases c1 : i4 ≤ j
    · obtain ⟨t, rfl⟩ : ∃ t, j = t + 1 := ⟨j - 1, by omega⟩
      rw [scanDown_at _ _ _ _ c1] at g4
      try dsimp only at g4
      obtain ⟨u, u1, u2, hu, c⟩ := cmpR (k.toList.getD a 0) (k.toList.getD (t + 1) 0) (q2.get (by omega)) (q2.get (by omega))
      rw [getQ, getQ] at hu
      by_cases g : ltQ k[a]! k[(t + 1)]! = true
      · rw [g, if_pos rfl] at g4
        have g2 := hu.2 g
        clear hu g
        repeat' (first
          | (show awpL _ _ _ _ _; first | refine goL ?_ | refine cl 65 tt rfl rfl rfl (hr := c) (k := ?_) | (refine gdLG ?_ ?_ <;> intro _ <;> try (exfalso; omega)))
          | (show awp _ _ _ _; first | refine goA ?_ | refine rg 1 14 ?_ | refine rg 3 13 ?_ | refine rg 5 13 ?_ | refine rg 8 14 ?_ | (refine cdG ?_ ?_ <;> intro _ <;> try (exfalso; omega)))
          | (show andThen _ _ _ _; refine goN ?_)
          | (show inBlock _ _ _ _; refine goB ?_)
          | (show awpR _ _ _ _ _ _ _; first | refine goR ?_ | refine clR 65 tt rfl rfl rfl (hr := c) (k := ?_) | (refine gdRG ?_ ?_ <;> intro _ <;> try (exfalso; omega)))
          | (show retPost _ _ _ _ _; refine finG ?_)
          | (show retPostB _ _ _ _ _ _; first | refine finB rfl rfl ?_ ?_ | refine finBT rfl rfl rfl ?_ ?_))
        exact ⟨t, ⟨by omega, g4⟩, by omega, ⟨rfl, rfl, rfl, iv (by omega), iv (by omega), rfl⟩, rfl, trivial⟩
      · rw [Bool.eq_false_iff.2 g, if_neg (by decide)] at g4
        have g2 := mt hu.1 g
        clear hu g
        repeat' (first
          | (show awpL _ _ _ _ _; first | refine goL ?_ | refine cl 65 tt rfl rfl rfl (hr := c) (k := ?_) | (refine gdLG ?_ ?_ <;> intro _ <;> try (exfalso; omega)))
          | (show awp _ _ _ _; first | refine goA ?_ | refine rg 1 14 ?_ | refine rg 3 13 ?_ | refine rg 5 13 ?_ | refine rg 8 14 ?_ | (refine cdG ?_ ?_ <;> intro _ <;> try (exfalso; omega)))
          | (show andThen _ _ _ _; refine goN ?_)
          | (show inBlock _ _ _ _; refine goB ?_)
          | (show awpR _ _ _ _ _ _ _; first | refine goR ?_ | refine clR 65 tt rfl rfl rfl (hr := c) (k := ?_) | (refine gdRG ?_ ?_ <;> intro _ <;> try (exfalso; omega)))
          | (show retPost _ _ _ _ _; refine finG ?_)
          | (show retPostB _ _ _ _ _ _; first | refine finB rfl rfl ?_ ?_ | refine finBT rfl rfl rfl ?_ ?_))
        exact ⟨(), trivial, ⟨rfl, rfl, rfl, iv (by omega), iv (by omega), rfl⟩, rfl, trivial⟩
    · rw [scanDown_stop _ _ _ _ c1] at g4
      repeat' (first
        | (show awpL _ _ _ _ _; first | refine goL ?_ | (refine gdLG ?_ ?_ <;> intro _ <;> try (exfalso; omega)))
        | (show awp _ _ _ _; first | refine goA ?_ | refine rg 1 14 ?_ | refine rg 3 13 ?_ | refine rg 5 13 ?_ | refine rg 8 14 ?_ | (refine cdG ?_ ?_ <;> intro _ <;> try (exfalso; omega)))
        | (show andThen _ _ _ _; refine goN ?_)
        | (show inBlock _ _ _ _; refine goB ?_)
        | (show awpR _ _ _ _ _ _ _; first | refine goR ?_ | (refine gdRG ?_ ?_ <;> intro _ <;> try (exfalso; omega)))
        | (show retPost _ _ _ _ _; refine finG ?_)
        | (show retPostB _ _ _ _ _ _; first | refine finB rfl rfl ?_ ?_ | refine finBT rfl rfl rfl ?_ ?_))
      exact ⟨(), trivial, ⟨rfl, rfl, rfl, iv (by omega), iv (by omega), rfl⟩, rfl, trivial⟩
  by_cases c2 : i4 > j4
  · rw [if_pos c2] at q6
    subst q6
    repeat' (first
      | (show awpL _ _ _ _ _; first | refine goL ?_ | (refine gdLG ?_ ?_ <;> intro _ <;> try (exfalso; omega)))
      | (show awp _ _ _ _; first | refine goA ?_ | refine rg 1 14 ?_ | refine rg 3 13 ?_ | refine rg 5 13 ?_ | refine rg 8 14 ?_ | (refine cdG ?_ ?_ <;> intro _ <;> try (exfalso; omega)))
      | (show andThen _ _ _ _; refine goN ?_)
      | (show inBlock _ _ _ _; refine goB ?_)
      | (show awpR _ _ _ _ _ _ _; first | refine goR ?_ | (refine gdRG ?_ ?_ <;> intro _ <;> try (exfalso; omega)))
      | (show retPost _ _ _ _ _; refine finG ?_)
      | (show retPostB _ _ _ _ _ _; first | refine finB rfl rfl ?_ ?_ | refine finBT rfl rfl rfl ?_ ?_))
    all_goals first | exact leVT | exact ⟨rfl, trivial⟩
  · rw [if_neg c2] at q6
    have b8 := b7 (by omega)
    clear b7 hi4 hj4
    repeat' (first
      | (show awpL _ _ _ _ _; first | refine goL ?_ | (refine gdLG ?_ ?_ <;> intro _ <;> try (exfalso; omega)))
      | (show awp _ _ _ _; first | refine goA ?_ | refine rg 1 14 ?_ | refine rg 3 13 ?_ | refine rg 5 13 ?_ | refine rg 8 14 ?_ | (refine cdG ?_ ?_ <;> intro _ <;> try (exfalso; omega)))
      | (show andThen _ _ _ _; refine goN ?_)
      | (show inBlock _ _ _ _; refine goB ?_)
      | (show awpR _ _ _ _ _ _ _; first | refine goR ?_ | (refine gdRG ?_ ?_ <;> intro _ <;> try (exfalso; omega)))
      | (show retPost _ _ _ _ _; refine finG ?_)
      | (show retPostB _ _ _ _ _ _; first | refine finB rfl rfl ?_ ?_ | refine finBT rfl rfl rfl ?_ ?_))
    exact ⟨Go.Sort.swp k i4 j4, i4 + 1, j4 - 1, ⟨by rw [Go.Sort.size_swp]; exact q1, q2.swp (by omega) (by omega), by omega, by omega, by omega, q6⟩, by omega, ⟨rfl, rfl, rfl, iv (by omega), iv (by omega), rfl⟩, blkSw, trivial⟩
end Go.Proofs.YtoppaphffnojdaaGreat

set_option linter.unusedVariables false
set_option linter.unusedSimpArgs false
set_option maxHeartbeats 8000000
namespace Go.Proofs.YtoppaphffnojdaaGreat
open Go.Vw
attribute [local irreducible] awp awpL awpR

theorem scanSorted_at (m : Array Rat) (b i : Nat) (h : i < b) : Go.Sort.scanSorted ltQ m b i = if (!ltQ m[i]! m[i - 1]!) = true then Go.Sort.scanSorted ltQ m b (i + 1) else i := by
  rw [Go.Sort.scanSorted, decide_eq_true h, Bool.true_and]
theorem scanSorted_stop (m : Array Rat) (b i : Nat) (h : ¬ i < b) : Go.Sort.scanSorted ltQ m b i = i := by
  rw [Go.Sort.scanSorted, decide_eq_false h, Bool.false_and, if_neg (by decide)]
theorem scanSorted_bd (m : Array Rat) (b : Nat) : ∀ (n i : Nat), b - i = n → i ≤ b → i ≤ Go.Sort.scanSorted ltQ m b i ∧ Go.Sort.scanSorted ltQ m b i ≤ b := by
  intro n
  induction n with
  | zero => intro i h1 h2; rw [scanSorted_stop m b i (by omega)]; exact ⟨Nat.le_refl _, h2⟩
  | succ n ih =>
    intro i h1 h2
    rw [scanSorted_at m b i (by omega)]
    split
    · have := ih (i + 1) (by omega) (by omega)
      omega
    · exact ⟨Nat.le_refl _, h2⟩
theorem shiftDown_ok : ∀ (j : Nat) (m : Array Rat), j < m.size → AllOk m → (Go.Sort.shiftDown ltQ j m).size = m.size ∧ AllOk (Go.Sort.shiftDown ltQ j m)
  | 0, m, h, hm => ⟨rfl, hm⟩
  | j + 1, m, h, hm => by
    unfold Go.Sort.shiftDown
    split
    · exact ⟨rfl, hm⟩
    · have := shiftDown_ok j (Go.Sort.swp m (j + 1) j) (by rw [Go.Sort.size_swp]; omega) (hm.swp h (by omega))
      rw [Go.Sort.size_swp] at this
      exact this
theorem shiftUp_ok (b : Nat) : ∀ (n j : Nat) (m : Array Rat), b - j = n → b ≤ m.size → AllOk m → (Go.Sort.shiftUp ltQ b j m).size = m.size ∧ AllOk (Go.Sort.shiftUp ltQ b j m) := by
  intro n
  induction n with
  | zero => intro j m h1 h2 h3; rw [Go.Sort.shiftUp, if_neg (by omega)]; exact ⟨rfl, h3⟩
  | succ n ih =>
    intro j m h1 h2 h3
    rw [Go.Sort.shiftUp, if_pos (by omega)]
    split
    · exact ⟨rfl, h3⟩
    · have := ih (j + 1) (Go.Sort.swp m j (j - 1)) (by omega) (by rw [Go.Sort.size_swp]; exact h2) (h3.swp (by omega) (by omega))
      rw [Go.Sort.size_swp] at this
      exact this
theorem fixDown_ok (a i : Nat) (m : Array Rat) (h : i < m.size) (hm : AllOk m) : (Go.Sort.fixDown ltQ a i m).size = m.size ∧ AllOk (Go.Sort.fixDown ltQ a i m) := by
  unfold Go.Sort.fixDown
  split
  · exact shiftDown_ok _ m (by omega) hm
  · exact ⟨rfl, hm⟩
theorem fixUp_ok (b i : Nat) (m : Array Rat) (h : b ≤ m.size) (hm : AllOk m) : (Go.Sort.fixUp ltQ b i m).size = m.size ∧ AllOk (Go.Sort.fixUp ltQ b i m) := by
  unfold Go.Sort.fixUp
  split
  · exact shiftUp_ok b _ _ m rfl h hm
  · exact ⟨rfl, hm⟩
theorem partialIns_ok (a b : Nat) : ∀ (s i : Nat) (m : Array Rat), a < i → i ≤ b → b ≤ m.size → AllOk m → (Go.Sort.partialIns ltQ a b s i m).1.size = m.size ∧ AllOk (Go.Sort.partialIns ltQ a b s i m).1
  | 0, i, m, h1, h2, h3, hm => ⟨rfl, hm⟩
  | s + 1, i, m, h1, h2, h3, hm => by
    rw [Go.Sort.partialIns_succ]
    have hb := scanSorted_bd m b _ i rfl h2
    split
    · exact ⟨rfl, hm⟩
    · split
      · exact ⟨rfl, hm⟩
      · generalize Go.Sort.scanSorted ltQ m b i = k at *
        have hw : (Go.Sort.swp m k (k - 1)).size = m.size := Go.Sort.size_swp ..
        have o1 := fixDown_ok a k (Go.Sort.swp m k (k - 1)) (by omega) (hm.swp (by omega) (by omega))
        have o2 := fixUp_ok b k _ (by rw [o1.1, hw]; exact h3) o1.2
        have o3 := partialIns_ok a b s k _ (by omega) (by omega) (by rw [o2.1, o1.1, hw]; exact h3) o2.2
        rw [o2.1, o1.1, hw] at o3
        exact o3
theorem partialInsSort_ok (d : Array Rat) {a b : Nat} (h : a < b) (hb : b ≤ d.size) (hd : AllOk d) : (Go.Sort.partialInsertionSort ltQ d a b).1.size = d.size ∧ AllOk (Go.Sort.partialInsertionSort ltQ d a b).1 := partialIns_ok a b 5 (a + 1) d (by omega) (by omega) hb hd
theorem sl_partial (d : Array Rat) (a b : Nat) (hd : AllOk d) (hn : d.size < 1000000000) (hab : a < b) (hb : b ≤ d.size) : RetB Tryz.prog 164 [ow d, .d (.int .i64 a), .d (.int .i64 b), cmpV] (lookB [(1000, bq d)]) (.d (.bool (Go.Sort.partialInsertionSort ltQ d a b).2)) (lookB [(1000, bq (Go.Sort.partialInsertionSort ltQ d a b).1)]) := by
  have hl : d.toList.length = d.size := Array.length_toList
  have hr := (partialInsSort_ok d hab hb hd).1
  obtain ⟨R, hR⟩ : ∃ R, Go.Sort.partialInsertionSort ltQ d a b = R := ⟨_, rfl⟩
  rw [hR] at hr ⊢
  unfold Go.Sort.partialInsertionSort at hR
  refine retB_of_awp tab [1000] Tryz.func164 rfl rfl rfl (Nat.le_of_ble_eq_true rfl) rfl ⟨by show d.toList.length ≤ R.1.toList.length; simp [hr], trivial⟩ (fun w0 F0 A io0 => ?_)
  repeat' (first
    | (show awpL _ _ _ _ _; first | refine goL ?_ | (refine gdLG ?_ ?_ <;> intro _ <;> try (exfalso; omega)))
    | (show awp _ _ _ _; first | refine goA ?_ | refine rg 5 14 ?_ | refine rg 11 16 ?_ | refine rg 16 10 ?_ | refine rg 17 16 ?_ | refine rg 22 10 ?_ | refine rg 23 16 ?_ | (refine cdG ?_ ?_ <;> intro _ <;> try (exfalso; omega)))
    | (show andThen _ _ _ _; refine goN ?_)
    | (show inBlock _ _ _ _; refine goB ?_)
    | (show awpR _ _ _ _ _ _ _; first | refine goR ?_ | (refine gdRG ?_ ?_ <;> intro _ <;> try (exfalso; omega)))
    | (show retPost _ _ _ _ _; refine finG ?_)
    | (show retPostB _ _ _ _ _ _; first | refine finB rfl rfl ?_ ?_ | refine finBT rfl rfl rfl ?_ ?_))
  refine awp_loop3 (fun (m : Array Rat) (i s : Nat) => ([(0, ow d), (1, .d (.int .i64 a)), (2, .d (.int .i64 b)), (3, cmpV), (9, .d (.int .i64 i)), (10, .d (.int .i64 (5 - (s : Int))))], [(1000, bq m)])) (fun m i s => m.size = d.size ∧ AllOk m ∧ a < i ∧ i ≤ b ∧ s ≤ 5 ∧ Go.Sort.partialIns ltQ a b s i m = R) (fun m i s => s) d (a + 1) 5 ⟨rfl, hd, by omega, by omega, by omega, hR⟩ ⟨rfl, rfl, rfl, rfl, iv (by omega), iv (by omega), rfl⟩ ⟨rfl, trivial⟩ (fun m i s hi => ?_)
  obtain ⟨q1, q2, q3, q4, q5, q6⟩ := hi
  have hml : m.toList.length = m.size := Array.length_toList
  clear hR hd
  cases s with
  | zero =>
    have e : (m, false) = R := q6
    subst e
    clear q6
    repeat' (first
      | (show awpL _ _ _ _ _; first | refine goL ?_ | (refine gdLG ?_ ?_ <;> intro _ <;> try (exfalso; omega)))
      | (show awp _ _ _ _; first | refine goA ?_ | refine rg 5 14 ?_ | refine rg 11 16 ?_ | refine rg 16 10 ?_ | refine rg 17 16 ?_ | refine rg 22 10 ?_ | refine rg 23 16 ?_ | (refine cdG ?_ ?_ <;> intro _ <;> try (exfalso; omega)))
      | (show andThen _ _ _ _; refine goN ?_)
      | (show inBlock _ _ _ _; refine goB ?_)
      | (show awpR _ _ _ _ _ _ _; first | refine goR ?_ | (refine gdRG ?_ ?_ <;> intro _ <;> try (exfalso; omega)))
      | (show retPost _ _ _ _ _; refine finG ?_)
      | (show retPostB _ _ _ _ _ _; first | refine finB rfl rfl ?_ ?_ | refine finBT rfl rfl rfl ?_ ?_))
    all_goals first | exact leVT | exact ⟨rfl, trivial⟩
  | succ s =>
    rw [Go.Sort.partialIns_succ] at q6
    have hbd := scanSorted_bd m b _ i rfl q4
    obtain ⟨k, hk⟩ : ∃ k, Go.Sort.scanSorted ltQ m b i = k := ⟨_, rfl⟩
    rw [hk] at q6 hbd
    repeat' (first
      | (show awpL _ _ _ _ _; first | refine goL ?_ | (refine gdLG ?_ ?_ <;> intro _ <;> try (exfalso; omega)))
      | (show awp _ _ _ _; first | refine stopA 5 tt ?_)
      | (show awp _ _ _ _; first | refine goA ?_ | refine rg 5 14 ?_ | refine rg 11 16 ?_ | refine rg 16 10 ?_ | refine rg 17 16 ?_ | refine rg 22 10 ?_ | refine rg 23 16 ?_ | (refine cdG ?_ ?_ <;> intro _ <;> try (exfalso; omega)))
      | (show andThen _ _ _ _; refine goN ?_)
      | (show inBlock _ _ _ _; refine goB ?_)
      | (show awpR _ _ _ _ _ _ _; first | refine goR ?_ | (refine gdRG ?_ ?_ <;> intro _ <;> try (exfalso; omega)))
      | (show retPost _ _ _ _ _; refine finG ?_)
      | (show retPostB _ _ _ _ _ _; first | refine finB rfl rfl ?_ ?_ | refine finBT rfl rfl rfl ?_ ?_))
    refine stopOut ?_
    refine goA ?_
    refine goA ?_
    refine awp_meet1 (fun (_ : Unit) => ([(0, ow d), (1, .d (.int .i64 a)), (2, .d (.int .i64 b)), (3, cmpV), (9, .d (.int .i64 k)), (10, .d (.int .i64 (5 - ((s + 1 : Nat) : Int))))], [(1000, bq m)])) (fun _ => True) (fun _ _ => ?_) ?_
    rotate_left
    · repeat' (first
        | (show awpL _ _ _ _ _; first | refine goL ?_ | (refine gdLG ?_ ?_ <;> intro _ <;> try (exfalso; omega)))
        | (show awp _ _ _ _; first | refine goA ?_ | refine rg 5 14 ?_ | refine rg 11 16 ?_ | refine rg 16 10 ?_ | refine rg 17 16 ?_ | refine rg 22 10 ?_ | refine rg 23 16 ?_ | (refine cdG ?_ ?_ <;> intro _ <;> try (exfalso; omega)))
        | (show andThen _ _ _ _; refine goN ?_)
        | (show inBlock _ _ _ _; refine goB ?_)
        | (show awpR _ _ _ _ _ _ _; first | refine goR ?_ | (refine gdRG ?_ ?_ <;> intro _ <;> try (exfalso; omega)))
        | (show retPost _ _ _ _ _; refine finG ?_)
        | (show retPostB _ _ _ _ _ _; first | refine finB rfl rfl ?_ ?_ | refine finBT rfl rfl rfl ?_ ?_))
      refine awp_loop1 (fun (i : Nat) => ([(0, ow d), (1, .d (.int .i64 a)), (2, .d (.int .i64 b)), (3, cmpV), (9, .d (.int .i64 i)), (10, .d (.int .i64 (5 - ((s + 1 : Nat) : Int))))], [(1000, bq m)])) (fun i => a < i ∧ i ≤ b ∧ Go.Sort.scanSorted ltQ m b i = k) (fun i => b - i) i ⟨q3, q4, hk⟩ ⟨rfl, rfl, rfl, rfl, rfl, rfl, rfl⟩ ⟨rfl, trivial⟩ (fun i hi => ?_)
      obtain ⟨g1, g3, g4⟩ := hi
      clear hk
      by_cases c1 : i < b
      · rw [scanSorted_at _ _ _ c1] at g4
        obtain ⟨t, rfl⟩ : ∃ t, i = t + 1 := ⟨i - 1, by omega⟩
        have ek : (((t + 1 : Nat) : Int) - 1).toNat = t := by omega
        obtain ⟨u, u1, u2, hu, c⟩ := cmpR (m.toList.getD (t + 1) 0) (m.toList.getD (((t + 1 : Nat) : Int) - 1).toNat 0) (q2.get (by omega)) (q2.get (by omega))
        rw [ek, getQ, getQ] at hu
        rw [Nat.add_sub_cancel] at g4
        by_cases g : ltQ m[t + 1]! m[t]! = true
        · rw [g, Bool.not_true, if_neg (by decide)] at g4
          have g2 := hu.2 g
          clear hu g
          repeat' (first
            | (show awpL _ _ _ _ _; first | refine goL ?_ | refine cl 65 tt rfl rfl rfl (hr := c) (k := ?_) | (refine gdLG ?_ ?_ <;> intro _ <;> try (exfalso; omega)))
            | (show awp _ _ _ _; first | refine goA ?_ | refine rg 5 14 ?_ | refine rg 11 16 ?_ | refine rg 16 10 ?_ | refine rg 17 16 ?_ | refine rg 22 10 ?_ | refine rg 23 16 ?_ | (refine cdG ?_ ?_ <;> intro _ <;> try (exfalso; omega)))
            | (show andThen _ _ _ _; refine goN ?_)
            | (show inBlock _ _ _ _; refine goB ?_)
            | (show awpR _ _ _ _ _ _ _; first | refine goR ?_ | refine clR 65 tt rfl rfl rfl (hr := c) (k := ?_) | (refine gdRG ?_ ?_ <;> intro _ <;> try (exfalso; omega)))
            | (show retPost _ _ _ _ _; refine finG ?_)
            | (show retPostB _ _ _ _ _ _; first | refine finB rfl rfl ?_ ?_ | refine finBT rfl rfl rfl ?_ ?_))
          exact ⟨(), trivial, ⟨rfl, rfl, rfl, rfl, iv (by omega), rfl, rfl⟩, rfl, trivial⟩
        · rw [Bool.eq_false_iff.2 g, Bool.not_false, if_pos rfl] at g4
          have g2 := mt hu.1 g
          clear hu g
          repeat' (first
            | (show awpL _ _ _ _ _; first | refine goL ?_ | refine cl 65 tt rfl rfl rfl (hr := c) (k := ?_) | (refine gdLG ?_ ?_ <;> intro _ <;> try (exfalso; omega)))
            | (show awp _ _ _ _; first | refine goA ?_ | refine rg 5 14 ?_ | refine rg 11 16 ?_ | refine rg 16 10 ?_ | refine rg 17 16 ?_ | refine rg 22 10 ?_ | refine rg 23 16 ?_ | (refine cdG ?_ ?_ <;> intro _ <;> try (exfalso; omega)))
            | (show andThen _ _ _ _; refine goN ?_)
            | (show inBlock _ _ _ _; refine goB ?_)
            | (show awpR _ _ _ _ _ _ _; first | refine goR ?_ | refine clR 65 tt rfl rfl rfl (hr := c) (k := ?_) | (refine gdRG ?_ ?_ <;> intro _ <;> try (exfalso; omega)))
            | (show retPost _ _ _ _ _; refine finG ?_)
            | (show retPostB _ _ _ _ _ _; first | refine finB rfl rfl ?_ ?_ | refine finBT rfl rfl rfl ?_ ?_))
          exact ⟨t + 1 + 1, ⟨by omega, by omega, g4⟩, by omega, ⟨rfl, rfl, rfl, rfl, iv (by omega), rfl, rfl⟩, rfl, trivial⟩
      · rw [scanSorted_stop _ _ _ c1] at g4
        repeat' (first
          | (show awpL _ _ _ _ _; first | refine goL ?_ | (refine gdLG ?_ ?_ <;> intro _ <;> try (exfalso; omega)))
          | (show awp _ _ _ _; first | refine goA ?_ | refine rg 5 14 ?_ | refine rg 11 16 ?_ | refine rg 16 10 ?_ | refine rg 17 16 ?_ | refine rg 22 10 ?_ | refine rg 23 16 ?_ | (refine cdG ?_ ?_ <;> intro _ <;> try (exfalso; omega)))
          | (show andThen _ _ _ _; refine goN ?_)
          | (show inBlock _ _ _ _; refine goB ?_)
          | (show awpR _ _ _ _ _ _ _; first | refine goR ?_ | (refine gdRG ?_ ?_ <;> intro _ <;> try (exfalso; omega)))
          | (show retPost _ _ _ _ _; refine finG ?_)
          | (show retPostB _ _ _ _ _ _; first | refine finB rfl rfl ?_ ?_ | refine finBT rfl rfl rfl ?_ ?_))
        exact ⟨(), trivial, ⟨rfl, rfl, rfl, rfl, iv (by omega), rfl, rfl⟩, rfl, trivial⟩
    clear hk
    by_cases c1 : k = b
    · rw [if_pos c1] at q6
      subst q6
      repeat' (first
        | (show awpL _ _ _ _ _; first | refine goL ?_ | (refine gdLG ?_ ?_ <;> intro _ <;> try (exfalso; omega)))
        | (show awp _ _ _ _; first | refine goA ?_ | refine rg 5 14 ?_ | refine rg 11 16 ?_ | refine rg 16 10 ?_ | refine rg 17 16 ?_ | refine rg 22 10 ?_ | refine rg 23 16 ?_ | (refine cdG ?_ ?_ <;> intro _ <;> try (exfalso; omega)))
        | (show andThen _ _ _ _; refine goN ?_)
        | (show inBlock _ _ _ _; refine goB ?_)
        | (show awpR _ _ _ _ _ _ _; first | refine goR ?_ | (refine gdRG ?_ ?_ <;> intro _ <;> try (exfalso; omega)))
        | (show retPost _ _ _ _ _; refine finG ?_)
        | (show retPostB _ _ _ _ _ _; first | refine finB rfl rfl ?_ ?_ | refine finBT rfl rfl rfl ?_ ?_))
      all_goals first | exact leVT | exact ⟨rfl, trivial⟩
    · rw [if_neg c1] at q6
      by_cases c2 : b - a < 50
      · rw [if_pos c2] at q6
        subst q6
        repeat' (first
          | (show awpL _ _ _ _ _; first | refine goL ?_ | (refine gdLG ?_ ?_ <;> intro _ <;> try (exfalso; omega)))
          | (show awp _ _ _ _; first | refine goA ?_ | refine rg 5 14 ?_ | refine rg 11 16 ?_ | refine rg 16 10 ?_ | refine rg 17 16 ?_ | refine rg 22 10 ?_ | refine rg 23 16 ?_ | (refine cdG ?_ ?_ <;> intro _ <;> try (exfalso; omega)))
          | (show andThen _ _ _ _; refine goN ?_)
          | (show inBlock _ _ _ _; refine goB ?_)
          | (show awpR _ _ _ _ _ _ _; first | refine goR ?_ | (refine gdRG ?_ ?_ <;> intro _ <;> try (exfalso; omega)))
          | (show retPost _ _ _ _ _; refine finG ?_)
          | (show retPostB _ _ _ _ _ _; first | refine finB rfl rfl ?_ ?_ | refine finBT rfl rfl rfl ?_ ?_))
        all_goals first | exact leVT | exact ⟨rfl, trivial⟩
      · rw [if_neg c2] at q6
        obtain ⟨t, rfl⟩ : ∃ t, k = t + 1 := ⟨k - 1, by omega⟩
        rw [Nat.add_sub_cancel] at q6
        have hw : (Go.Sort.swp m (t + 1) t).size = m.size := Go.Sort.size_swp ..
        have hwo := q2.swp (i := t + 1) (j := t) (by omega) (by omega)
        have hbl := blkSw (ty := 27) (sz := 3) (e := qC) (z := 0) (d := m) (i := t + 1) (j := t) (a := t + 1) (b := (((t + 1 : Nat) : Int) - 1).toNat) (a' := t + 1) (b' := (((t + 1 : Nat) : Int) - 1).toNat)
        generalize Go.Sort.swp m (t + 1) t = m1 at *
        have hml1 : m1.toList.length = m1.size := Array.length_toList
        obtain ⟨m2, hm2⟩ : ∃ m2, Go.Sort.fixDown ltQ a (t + 1) m1 = m2 := ⟨_, rfl⟩
        have o1 := fixDown_ok a (t + 1) m1 (by omega) hwo
        rw [hm2] at q6 o1
        have hml2 : m2.toList.length = m2.size := Array.length_toList
        obtain ⟨m3, hm3⟩ : ∃ m3, Go.Sort.fixUp ltQ b (t + 1) m2 = m3 := ⟨_, rfl⟩
        have o2 := fixUp_ok b (t + 1) m2 (by omega) o1.2
        rw [hm3] at q6 o2
        unfold Go.Sort.fixDown at hm2
        unfold Go.Sort.fixUp at hm3
        repeat' (first
          | (show awpL _ _ _ _ _; first | refine goL ?_ | (refine gdLG ?_ ?_ <;> intro _ <;> try (exfalso; omega)))
          | (show awp _ _ _ _; first | refine stopA 12 tt ?_)
          | (show awp _ _ _ _; first | refine goA ?_ | refine rg 5 14 ?_ | refine rg 11 16 ?_ | refine rg 16 10 ?_ | refine rg 17 16 ?_ | refine rg 22 10 ?_ | refine rg 23 16 ?_ | (refine cdG ?_ ?_ <;> intro _ <;> try (exfalso; omega)))
          | (show andThen _ _ _ _; refine goN ?_)
          | (show inBlock _ _ _ _; refine goB ?_)
          | (show awpR _ _ _ _ _ _ _; first | refine goR ?_ | (refine gdRG ?_ ?_ <;> intro _ <;> try (exfalso; omega)))
          | (show retPost _ _ _ _ _; refine finG ?_)
          | (show retPostB _ _ _ _ _ _; first | refine finB rfl rfl ?_ ?_ | refine finBT rfl rfl rfl ?_ ?_))
        refine stopOut ?_
        refine awp_meet1 (fun (_ : Unit) => ([(0, ow d), (1, .d (.int .i64 a)), (2, .d (.int .i64 b)), (3, cmpV), (9, .d (.int .i64 (t + 1 : Nat))), (10, .d (.int .i64 (5 - ((s + 1 : Nat) : Int))))], [(1000, bq m2)])) (fun _ => True) (fun _ _ => ?_) ?_
        rotate_left
        · by_cases c3 : t + 1 - a ≥ 2
          · rw [if_pos c3, Nat.add_sub_cancel] at hm2
            repeat' (first
              | (show awpL _ _ _ _ _; first | refine goL ?_ | (refine gdLG ?_ ?_ <;> intro _ <;> try (exfalso; omega)))
              | (show awp _ _ _ _; first | refine goA ?_ | refine rg 5 14 ?_ | refine rg 11 16 ?_ | refine rg 16 10 ?_ | refine rg 17 16 ?_ | refine rg 22 10 ?_ | refine rg 23 16 ?_ | (refine cdG ?_ ?_ <;> intro _ <;> try (exfalso; omega)))
              | (show andThen _ _ _ _; refine goN ?_)
              | (show inBlock _ _ _ _; refine goB ?_)
              | (show awpR _ _ _ _ _ _ _; first | refine goR ?_ | (refine gdRG ?_ ?_ <;> intro _ <;> try (exfalso; omega)))
              | (show retPost _ _ _ _ _; refine finG ?_)
              | (show retPostB _ _ _ _ _ _; first | refine finB rfl rfl ?_ ?_ | refine finBT rfl rfl rfl ?_ ?_))
            refine awp_loop2 (fun (k : Array Rat) (j : Nat) => ([(0, ow d), (1, .d (.int .i64 a)), (2, .d (.int .i64 b)), (3, cmpV), (9, .d (.int .i64 (t + 1 : Nat))), (10, .d (.int .i64 (5 - ((s + 1 : Nat) : Int)))), (11, .d (.int .i64 j))], [(1000, bq k)])) (fun k j => k.size = d.size ∧ AllOk k ∧ j ≤ t ∧ Go.Sort.shiftDown ltQ j k = m2) (fun k j => j) m1 t ⟨by omega, hwo, Nat.le_refl _, hm2⟩ ⟨rfl, rfl, rfl, rfl, rfl, rfl, iv (by omega), rfl⟩ ⟨hbl, trivial⟩ (fun k j hj => ?_)
            obtain ⟨g1, g2, g3, g4⟩ := hj
            have hkl : k.toList.length = k.size := Array.length_toList
            clear hm2 hbl hm3
            cases j with
            | zero =>
              have e : k = m2 := g4
              subst e
              clear g4
              repeat' (first
                | (show awpL _ _ _ _ _; first | refine goL ?_ | (refine gdLG ?_ ?_ <;> intro _ <;> try (exfalso; omega)))
                | (show awp _ _ _ _; first | refine goA ?_ | refine rg 5 14 ?_ | refine rg 11 16 ?_ | refine rg 16 10 ?_ | refine rg 17 16 ?_ | refine rg 22 10 ?_ | refine rg 23 16 ?_ | (refine cdG ?_ ?_ <;> intro _ <;> try (exfalso; omega)))
                | (show andThen _ _ _ _; refine goN ?_)
                | (show inBlock _ _ _ _; refine goB ?_)
                | (show awpR _ _ _ _ _ _ _; first | refine goR ?_ | (refine gdRG ?_ ?_ <;> intro _ <;> try (exfalso; omega)))
                | (show retPost _ _ _ _ _; refine finG ?_)
                | (show retPostB _ _ _ _ _ _; first | refine finB rfl rfl ?_ ?_ | refine finBT rfl rfl rfl ?_ ?_))
              exact ⟨(), trivial, ⟨rfl, rfl, rfl, rfl, rfl, rfl, rfl⟩, rfl, trivial⟩
            | succ j =>
              unfold Go.Sort.shiftDown at g4
              have ek : (((j + 1 : Nat) : Int) - 1).toNat = j := by omega
              obtain ⟨u, u1, u2, hu, c⟩ := cmpR (k.toList.getD (j + 1) 0) (k.toList.getD (((j + 1 : Nat) : Int) - 1).toNat 0) (g2.get (by omega)) (g2.get (by omega))
              rw [ek, getQ, getQ] at hu
              by_cases g : ltQ k[j + 1]! k[j]! = true
              · rw [g, Bool.not_true, if_neg (by decide)] at g4
                have g5 := hu.2 g
                clear hu g
                repeat' (first
                  | (show awpL _ _ _ _ _; first | refine goL ?_ | refine cl 65 tt rfl rfl rfl (hr := c) (k := ?_) | (refine gdLG ?_ ?_ <;> intro _ <;> try (exfalso; omega)))
                  | (show awp _ _ _ _; first | refine goA ?_ | refine rg 5 14 ?_ | refine rg 11 16 ?_ | refine rg 16 10 ?_ | refine rg 17 16 ?_ | refine rg 22 10 ?_ | refine rg 23 16 ?_ | (refine cdG ?_ ?_ <;> intro _ <;> try (exfalso; omega)))
                  | (show andThen _ _ _ _; refine goN ?_)
                  | (show inBlock _ _ _ _; refine goB ?_)
                  | (show awpR _ _ _ _ _ _ _; first | refine goR ?_ | refine clR 65 tt rfl rfl rfl (hr := c) (k := ?_) | (refine gdRG ?_ ?_ <;> intro _ <;> try (exfalso; omega)))
                  | (show retPost _ _ _ _ _; refine finG ?_)
                  | (show retPostB _ _ _ _ _ _; first | refine finB rfl rfl ?_ ?_ | refine finBT rfl rfl rfl ?_ ?_))
                exact ⟨Go.Sort.swp k (j + 1) j, j, ⟨by rw [Go.Sort.size_swp]; exact g1, g2.swp (by omega) (by omega), by omega, g4⟩, by omega, ⟨rfl, rfl, rfl, rfl, rfl, rfl, iv (by omega), rfl⟩, blkSw, trivial⟩
              · rw [Bool.eq_false_iff.2 g, Bool.not_false, if_pos rfl] at g4
                have g5 := mt hu.1 g
                clear hu g
                subst g4
                repeat' (first
                  | (show awpL _ _ _ _ _; first | refine goL ?_ | refine cl 65 tt rfl rfl rfl (hr := c) (k := ?_) | (refine gdLG ?_ ?_ <;> intro _ <;> try (exfalso; omega)))
                  | (show awp _ _ _ _; first | refine goA ?_ | refine rg 5 14 ?_ | refine rg 11 16 ?_ | refine rg 16 10 ?_ | refine rg 17 16 ?_ | refine rg 22 10 ?_ | refine rg 23 16 ?_ | (refine cdG ?_ ?_ <;> intro _ <;> try (exfalso; omega)))
                  | (show andThen _ _ _ _; refine goN ?_)
                  | (show inBlock _ _ _ _; refine goB ?_)
                  | (show awpR _ _ _ _ _ _ _; first | refine goR ?_ | refine clR 65 tt rfl rfl rfl (hr := c) (k := ?_) | (refine gdRG ?_ ?_ <;> intro _ <;> try (exfalso; omega)))
                  | (show retPost _ _ _ _ _; refine finG ?_)
                  | (show retPostB _ _ _ _ _ _; first | refine finB rfl rfl ?_ ?_ | refine finBT rfl rfl rfl ?_ ?_))
                exact ⟨(), trivial, ⟨rfl, rfl, rfl, rfl, rfl, rfl, rfl⟩, rfl, trivial⟩
          · rw [if_neg c3] at hm2
            subst hm2
            clear hm3
            repeat' (first
              | (show awpL _ _ _ _ _; first | refine goL ?_ | (refine gdLG ?_ ?_ <;> intro _ <;> try (exfalso; omega)))
              | (show awp _ _ _ _; first | refine goA ?_ | refine rg 5 14 ?_ | refine rg 11 16 ?_ | refine rg 16 10 ?_ | refine rg 17 16 ?_ | refine rg 22 10 ?_ | refine rg 23 16 ?_ | (refine cdG ?_ ?_ <;> intro _ <;> try (exfalso; omega)))
              | (show andThen _ _ _ _; refine goN ?_)
              | (show inBlock _ _ _ _; refine goB ?_)
              | (show awpR _ _ _ _ _ _ _; first | refine goR ?_ | (refine gdRG ?_ ?_ <;> intro _ <;> try (exfalso; omega)))
              | (show retPost _ _ _ _ _; refine finG ?_)
              | (show retPostB _ _ _ _ _ _; first | refine finB rfl rfl ?_ ?_ | refine finBT rfl rfl rfl ?_ ?_))
            exact ⟨(), trivial, ⟨rfl, rfl, rfl, rfl, rfl, rfl, rfl⟩, hbl, trivial⟩
        clear hm2 hbl
        by_cases c3 : b - (t + 1) ≥ 2
        · rw [if_pos c3] at hm3
          repeat' (first
            | (show awpL _ _ _ _ _; first | refine goL ?_ | (refine gdLG ?_ ?_ <;> intro _ <;> try (exfalso; omega)))
            | (show awp _ _ _ _; first | refine goA ?_ | refine rg 5 14 ?_ | refine rg 11 16 ?_ | refine rg 16 10 ?_ | refine rg 17 16 ?_ | refine rg 22 10 ?_ | refine rg 23 16 ?_ | (refine cdG ?_ ?_ <;> intro _ <;> try (exfalso; omega)))
            | (show andThen _ _ _ _; refine goN ?_)
            | (show inBlock _ _ _ _; refine goB ?_)
            | (show awpR _ _ _ _ _ _ _; first | refine goR ?_ | (refine gdRG ?_ ?_ <;> intro _ <;> try (exfalso; omega)))
            | (show retPost _ _ _ _ _; refine finG ?_)
            | (show retPostB _ _ _ _ _ _; first | refine finB rfl rfl ?_ ?_ | refine finBT rfl rfl rfl ?_ ?_))
          refine awp_loop2 (fun (k : Array Rat) (j : Nat) => ([(0, ow d), (1, .d (.int .i64 a)), (2, .d (.int .i64 b)), (3, cmpV), (9, .d (.int .i64 (t + 1 : Nat))), (10, .d (.int .i64 (5 - ((s + 1 : Nat) : Int)))), (12, .d (.int .i64 j))], [(1000, bq k)])) (fun k j => k.size = d.size ∧ AllOk k ∧ 0 < j ∧ j ≤ b ∧ Go.Sort.shiftUp ltQ b j k = m3) (fun k j => b - j) m2 (t + 1 + 1) ⟨by omega, o1.2, by omega, by omega, hm3⟩ ⟨rfl, rfl, rfl, rfl, rfl, rfl, iv (by omega), rfl⟩ ⟨rfl, trivial⟩ (fun k j hj => ?_)
          obtain ⟨g1, g2, g0, g3, g4⟩ := hj
          have hkl : k.toList.length = k.size := Array.length_toList
          clear hm3
          rw [Go.Sort.shiftUp] at g4
          by_cases c4 : j < b
          · rw [if_pos c4] at g4
            obtain ⟨j, rfl⟩ : ∃ t, j = t + 1 := ⟨j - 1, by omega⟩
            have ek : (((j + 1 : Nat) : Int) - 1).toNat = j := by omega
            obtain ⟨u, u1, u2, hu, c⟩ := cmpR (k.toList.getD (j + 1) 0) (k.toList.getD (((j + 1 : Nat) : Int) - 1).toNat 0) (g2.get (by omega)) (g2.get (by omega))
            rw [ek, getQ, getQ] at hu
            rw [Nat.add_sub_cancel] at g4
            by_cases g : ltQ k[j + 1]! k[j]! = true
            · rw [g, Bool.not_true, if_neg (by decide)] at g4
              have g5 := hu.2 g
              clear hu g
              repeat' (first
                | (show awpL _ _ _ _ _; first | refine goL ?_ | refine cl 65 tt rfl rfl rfl (hr := c) (k := ?_) | (refine gdLG ?_ ?_ <;> intro _ <;> try (exfalso; omega)))
                | (show awp _ _ _ _; first | refine goA ?_ | refine rg 5 14 ?_ | refine rg 11 16 ?_ | refine rg 16 10 ?_ | refine rg 17 16 ?_ | refine rg 22 10 ?_ | refine rg 23 16 ?_ | (refine cdG ?_ ?_ <;> intro _ <;> try (exfalso; omega)))
                | (show andThen _ _ _ _; refine goN ?_)
                | (show inBlock _ _ _ _; refine goB ?_)
                | (show awpR _ _ _ _ _ _ _; first | refine goR ?_ | refine clR 65 tt rfl rfl rfl (hr := c) (k := ?_) | (refine gdRG ?_ ?_ <;> intro _ <;> try (exfalso; omega)))
                | (show retPost _ _ _ _ _; refine finG ?_)
                | (show retPostB _ _ _ _ _ _; first | refine finB rfl rfl ?_ ?_ | refine finBT rfl rfl rfl ?_ ?_))
              exact ⟨Go.Sort.swp k (j + 1) j, j + 1 + 1, ⟨by rw [Go.Sort.size_swp]; exact g1, g2.swp (by omega) (by omega), by omega, by omega, g4⟩, by omega, ⟨rfl, rfl, rfl, rfl, rfl, rfl, iv (by omega), rfl⟩, blkSw, trivial⟩
            · rw [Bool.eq_false_iff.2 g, Bool.not_false, if_pos rfl] at g4
              have g5 := mt hu.1 g
              clear hu g
              subst g4
              repeat' (first
                | (show awpL _ _ _ _ _; first | refine goL ?_ | refine cl 65 tt rfl rfl rfl (hr := c) (k := ?_) | (refine gdLG ?_ ?_ <;> intro _ <;> try (exfalso; omega)))
                | (show awp _ _ _ _; first | refine goA ?_ | refine rg 5 14 ?_ | refine rg 11 16 ?_ | refine rg 16 10 ?_ | refine rg 17 16 ?_ | refine rg 22 10 ?_ | refine rg 23 16 ?_ | (refine cdG ?_ ?_ <;> intro _ <;> try (exfalso; omega)))
                | (show andThen _ _ _ _; refine goN ?_)
                | (show inBlock _ _ _ _; refine goB ?_)
                | (show awpR _ _ _ _ _ _ _; first | refine goR ?_ | refine clR 65 tt rfl rfl rfl (hr := c) (k := ?_) | (refine gdRG ?_ ?_ <;> intro _ <;> try (exfalso; omega)))
                | (show retPost _ _ _ _ _; refine finG ?_)
                | (show retPostB _ _ _ _ _ _; first | refine finB rfl rfl ?_ ?_ | refine finBT rfl rfl rfl ?_ ?_))
              exact ⟨_, t + 1, s, ⟨by omega, o2.2, by omega, by omega, by omega, q6⟩, by omega, ⟨rfl, rfl, rfl, rfl, rfl, iv (by omega), rfl⟩, rfl, trivial⟩
          · rw [if_neg c4] at g4
            subst g4
            repeat' (first
              | (show awpL _ _ _ _ _; first | refine goL ?_ | (refine gdLG ?_ ?_ <;> intro _ <;> try (exfalso; omega)))
              | (show awp _ _ _ _; first | refine goA ?_ | refine rg 5 14 ?_ | refine rg 11 16 ?_ | refine rg 16 10 ?_ | refine rg 17 16 ?_ | refine rg 22 10 ?_ | refine rg 23 16 ?_ | (refine cdG ?_ ?_ <;> intro _ <;> try (exfalso; omega)))
              | (show andThen _ _ _ _; refine goN ?_)
              | (show inBlock _ _ _ _; refine goB ?_)
              | (show awpR _ _ _ _ _ _ _; first | refine goR ?_ | (refine gdRG ?_ ?_ <;> intro _ <;> try (exfalso; omega)))
              | (show retPost _ _ _ _ _; refine finG ?_)
              | (show retPostB _ _ _ _ _ _; first | refine finB rfl rfl ?_ ?_ | refine finBT rfl rfl rfl ?_ ?_))
            exact ⟨_, t + 1, s, ⟨by omega, o2.2, by omega, by omega, by omega, q6⟩, by omega, ⟨rfl, rfl, rfl, rfl, rfl, iv (by omega), rfl⟩, rfl, trivial⟩
        · rw [if_neg c3] at hm3
          subst hm3
          repeat' (first
            | (show awpL _ _ _ _ _; first | refine goL ?_ | (refine gdLG ?_ ?_ <;> intro _ <;> try (exfalso; omega)))
            | (show awp _ _ _ _; first | refine goA ?_ | refine rg 5 14 ?_ | refine rg 11 16 ?_ | refine rg 16 10 ?_ | refine rg 17 16 ?_ | refine rg 22 10 ?_ | refine rg 23 16 ?_ | (refine cdG ?_ ?_ <;> intro _ <;> try (exfalso; omega)))
            | (show andThen _ _ _ _; refine goN ?_)
            | (show inBlock _ _ _ _; refine goB ?_)
            | (show awpR _ _ _ _ _ _ _; first | refine goR ?_ | (refine gdRG ?_ ?_ <;> intro _ <;> try (exfalso; omega)))
            | (show retPost _ _ _ _ _; refine finG ?_)
            | (show retPostB _ _ _ _ _ _; first | refine finB rfl rfl ?_ ?_ | refine finBT rfl rfl rfl ?_ ?_))
          exact ⟨_, t + 1, s, ⟨by omega, o2.2, by omega, by omega, by omega, q6⟩, by omega, ⟨rfl, rfl, rfl, rfl, rfl, iv (by omega), rfl⟩, rfl, trivial⟩
end Go.Proofs.YtoppaphffnojdaaGreat

set_option linter.unusedVariables false
set_option linter.unusedSimpArgs false
set_option maxHeartbeats 8000000
namespace Go.Proofs.YtoppaphffnojdaaGreat
open Go.Vw
attribute [local irreducible] awp awpL awpR

def nx1 (r : Nat) : Nat := r ^^^ (r * 2 ^ 13 % 18446744073709551616)
def nx2 (r : Nat) : Nat := r ^^^ (r / 2 ^ 7)
def nx3 (r : Nat) : Nat := r ^^^ (r * 2 ^ 17 % 18446744073709551616)
theorem xor_lt {a b : Nat} (ha : a < 18446744073709551616) (hb : b < 18446744073709551616) : a ^^^ b < 18446744073709551616 := Nat.xor_lt_two_pow (n := 64) ha hb
theorem boxU {ty : TypeId} {k : IntKind} {x y : Int} (h : x = y) : some (Blk.box ty [V.d (.int k x)]) = some (Blk.box ty [V.d (.int k y)]) := by rw [h]
abbrev bu (r : Nat) : Blk := .box 142 [.d (.int .u64 r)]
theorem sl_next (r : Nat) (h : r < 18446744073709551616) : RetB Tryz.prog 171 [.ptr 9 0] (lookB [(9, bu r)]) (.d (.int .u64 (nx3 (nx2 (nx1 r)) : Nat))) (lookB [(9, bu (nx3 (nx2 (nx1 r))))]) := by
  obtain ⟨x, hx⟩ : ∃ x, nx1 r = x := ⟨_, rfl⟩
  obtain ⟨y, hy⟩ : ∃ y, nx2 x = y := ⟨_, rfl⟩
  obtain ⟨z, hz⟩ : ∃ z, nx3 y = z := ⟨_, rfl⟩
  have lx : x < 18446744073709551616 := hx ▸ xor_lt h (Nat.mod_lt _ (by decide))
  have ly : y < 18446744073709551616 := hy ▸ xor_lt lx (Nat.lt_of_le_of_lt (Nat.div_le_self _ _) lx)
  rw [hx, hy, hz]
  unfold nx1 at hx
  unfold nx2 at hy
  unfold nx3 at hz
  refine retB_of_awp tab [9] Tryz.func171 rfl rfl rfl (Nat.le_of_ble_eq_true rfl) rfl ⟨Nat.le_refl _, trivial⟩ (fun w0 F0 A io0 => ?_)
  repeat' (first
    | (show awpL _ _ _ _ _; first | refine goL ?_ | (refine gdLG ?_ ?_ <;> intro _ <;> try (exfalso; omega)))
    | (show awp _ _ _ _; first | refine stopA 2 tt ?_)
    | (show awp _ _ _ _; first | refine goA ?_ | refine rg 1 7 ?_ | refine rg 2 7 ?_ | refine rg 3 7 ?_ | (refine cdG ?_ ?_ <;> intro _ <;> try (exfalso; omega)))
    | (show andThen _ _ _ _; refine goN ?_)
    | (show inBlock _ _ _ _; refine goB ?_)
    | (show awpR _ _ _ _ _ _ _; first | refine goR ?_ | (refine gdRG ?_ ?_ <;> intro _ <;> try (exfalso; omega)))
    | (show retPost _ _ _ _ _; refine finG ?_)
    | (show retPostB _ _ _ _ _ _; first | refine finB rfl rfl ?_ ?_ | refine finBT rfl rfl rfl ?_ ?_))
  refine stopOut ?_
  refine awp_slots [(0, .ptr 9 0)] [(9, bu x)] ⟨rfl, rfl⟩ ⟨boxU (by rw [← hx]; rfl), trivial⟩ ?_
  clear hx
  repeat' (first
    | (show awpL _ _ _ _ _; first | refine goL ?_ | (refine gdLG ?_ ?_ <;> intro _ <;> try (exfalso; omega)))
    | (show awp _ _ _ _; first | refine stopA 3 tt ?_)
    | (show awp _ _ _ _; first | refine goA ?_ | refine rg 1 7 ?_ | refine rg 2 7 ?_ | refine rg 3 7 ?_ | (refine cdG ?_ ?_ <;> intro _ <;> try (exfalso; omega)))
    | (show andThen _ _ _ _; refine goN ?_)
    | (show inBlock _ _ _ _; refine goB ?_)
    | (show awpR _ _ _ _ _ _ _; first | refine goR ?_ | (refine gdRG ?_ ?_ <;> intro _ <;> try (exfalso; omega)))
    | (show retPost _ _ _ _ _; refine finG ?_)
    | (show retPostB _ _ _ _ _ _; first | refine finB rfl rfl ?_ ?_ | refine finBT rfl rfl rfl ?_ ?_))
  refine stopOut ?_
  refine awp_slots [(0, .ptr 9 0)] [(9, bu y)] ⟨rfl, rfl⟩ ⟨boxU (by rw [← hy]; rfl), trivial⟩ ?_
  clear hy
  repeat' (first
    | (show awpL _ _ _ _ _; first | refine goL ?_ | (refine gdLG ?_ ?_ <;> intro _ <;> try (exfalso; omega)))
    | (show awp _ _ _ _; first | refine stopA 4 tt ?_)
    | (show awp _ _ _ _; first | refine goA ?_ | refine rg 1 7 ?_ | refine rg 2 7 ?_ | refine rg 3 7 ?_ | (refine cdG ?_ ?_ <;> intro _ <;> try (exfalso; omega)))
    | (show andThen _ _ _ _; refine goN ?_)
    | (show inBlock _ _ _ _; refine goB ?_)
    | (show awpR _ _ _ _ _ _ _; first | refine goR ?_ | (refine gdRG ?_ ?_ <;> intro _ <;> try (exfalso; omega)))
    | (show retPost _ _ _ _ _; refine finG ?_)
    | (show retPostB _ _ _ _ _ _; first | refine finB rfl rfl ?_ ?_ | refine finBT rfl rfl rfl ?_ ?_))
  refine stopOut ?_
  refine awp_slots [(0, .ptr 9 0)] [(9, bu z)] ⟨rfl, rfl⟩ ⟨boxU (by rw [← hz]; rfl), trivial⟩ ?_
  repeat' (first
    | (show awpL _ _ _ _ _; first | refine goL ?_ | (refine gdLG ?_ ?_ <;> intro _ <;> try (exfalso; omega)))
    | (show awp _ _ _ _; first | refine goA ?_ | refine rg 1 7 ?_ | refine rg 2 7 ?_ | refine rg 3 7 ?_ | (refine cdG ?_ ?_ <;> intro _ <;> try (exfalso; omega)))
    | (show andThen _ _ _ _; refine goN ?_)
    | (show inBlock _ _ _ _; refine goB ?_)
    | (show awpR _ _ _ _ _ _ _; first | refine goR ?_ | (refine gdRG ?_ ?_ <;> intro _ <;> try (exfalso; omega)))
    | (show retPost _ _ _ _ _; refine finG ?_)
    | (show retPostB _ _ _ _ _ _; first | refine finB rfl rfl ?_ ?_ | refine finBT rfl rfl rfl ?_ ?_))
  all_goals first | exact leVT | exact ⟨rfl, trivial⟩
def len8 (x : Nat) : Nat := if x = 0 then 0 else x.log2 + 1
theorem len8_le (x : Nat) (hx : x < 256) : len8 x ≤ 8 ∧ (0 < x → 2 ^ len8 x ≤ 2 * x) ∧ x < 2 ^ len8 x := by
  revert x
  decide +kernel
set_option maxRecDepth 100000 in
theorem bits_Len64 (x : Nat) (hx : x < 256) : Ret Tryz.prog 168 [.int .u64 x] (· = .int .i64 (len8 x)) := by
  refine ret_of_awp tab Tryz.func168 rfl rfl (Nat.le_of_ble_eq_true rfl) (fun w0 F0 => ?_)
  repeat' (first
    | (show awpL _ _ _ _ _; first | refine goL ?_ | (refine gdLG ?_ ?_ <;> intro _ <;> try (exfalso; omega)))
    | (show awp _ _ _ _; first | refine goA ?_ | (refine cdG ?_ ?_ <;> intro _ <;> try (exfalso; omega)))
    | (show andThen _ _ _ _; refine goN ?_)
    | (show inBlock _ _ _ _; refine goB ?_)
    | (show retPost _ _ _ _ _; refine finG ?_)
    | (show retPostB _ _ _ _ _ _; first | refine finB rfl rfl ?_ ?_ | refine finBT rfl rfl rfl ?_ ?_))
  · refine stepQ false tt stt rfl rfl rfl ⟨by omega, Nat.lt_of_lt_of_le (show _ < 256 by omega) (Nat.le_of_ble_eq_true rfl)⟩ ?_
    refine awpL_byte 22 rfl (fun n hn he => ?_)
    repeat' (first
      | (show awpL _ _ _ _ _; first | refine goL ?_ | (refine gdLG ?_ ?_ <;> intro _ <;> try (exfalso; omega)))
      | (show awp _ _ _ _; first | refine goA ?_ | (refine cdG ?_ ?_ <;> intro _ <;> try (exfalso; omega)))
      | (show andThen _ _ _ _; refine goN ?_)
      | (show inBlock _ _ _ _; refine goB ?_)
      | (show retPost _ _ _ _ _; refine finG ?_)
      | (show retPostB _ _ _ _ _ _; first | refine finB rfl rfl ?_ ?_ | refine finBT rfl rfl rfl ?_ ?_))
    have e : n = len8 x := by
      rw [he]
      clear he
      revert x
      decide +kernel
    rw [e]
    congr 1 <;> omega
theorem bits_Len (x : Nat) (hx : x < 256) : Ret Tryz.prog 152 [.int .u64 x] (· = .int .i64 (len8 x)) := by
  have h := bits_Len64 x hx
  generalize len8 x = n at *
  refine ret_of_awp tab Tryz.func152 rfl rfl (Nat.le_of_ble_eq_true rfl) (fun w0 F0 => ?_)
  repeat' (first
    | (show awpL _ _ _ _ _; first | refine goL ?_ | refine cl 168 tt rfl rfl rfl (hr := h) (k := ?_) | (refine gdLG ?_ ?_ <;> intro _ <;> try (exfalso; omega)))
    | (show awp _ _ _ _; first | refine goA ?_ | (refine cdG ?_ ?_ <;> intro _ <;> try (exfalso; omega)))
    | (show andThen _ _ _ _; refine goN ?_)
    | (show inBlock _ _ _ _; refine goB ?_)
    | (show retPost _ _ _ _ _; refine finG ?_)
    | (show retPostB _ _ _ _ _ _; first | refine finB rfl rfl ?_ ?_ | refine finBT rfl rfl rfl ?_ ?_))
  rfl
theorem sl_power (n : Nat) (hn : n < 256) : Ret Tryz.prog 170 [.int .i64 n] (· = .int .u64 (2 ^ len8 n : Nat)) := by
  have h := bits_Len n hn
  have hl := (len8_le n hn).1
  generalize len8 n = k at *
  refine ret_of_awp tab Tryz.func170 rfl rfl (Nat.le_of_ble_eq_true rfl) (fun w0 F0 => ?_)
  repeat' (first
    | (show awpL _ _ _ _ _; first | refine goL ?_ | refine cl 152 tt rfl rfl rfl (hr := h) (k := ?_) | (refine gdLG ?_ ?_ <;> intro _ <;> try (exfalso; omega)))
    | (show awp _ _ _ _; first | refine goA ?_ | (refine cdG ?_ ?_ <;> intro _ <;> try (exfalso; omega)))
    | (show andThen _ _ _ _; refine goN ?_)
    | (show inBlock _ _ _ _; refine goB ?_)
    | (show retPost _ _ _ _ _; refine finG ?_)
    | (show retPostB _ _ _ _ _ _; first | refine finB rfl rfl ?_ ?_ | refine finBT rfl rfl rfl ?_ ?_))
  have : k = 0 ∨ k = 1 ∨ k = 2 ∨ k = 3 ∨ k = 4 ∨ k = 5 ∨ k = 6 ∨ k = 7 ∨ k = 8 := by omega
  rcases this with rfl | rfl | rfl | rfl | rfl | rfl | rfl | rfl | rfl <;> rfl
def oth (len p r : Nat) : Nat := if len ≤ r &&& (p - 1) then (r &&& (p - 1)) - len else r &&& (p - 1)
def brk (a len p : Nat) : Nat → Nat → Array Rat → Nat → Array Rat
  | 0, r, m, i => m
  | s + 1, r, m, i => brk a len p s (nx3 (nx2 (nx1 r))) (Go.Sort.swp m i (a + oth len p (nx3 (nx2 (nx1 r))))) (i + 1)
theorem oth_lt {len p r : Nat} (h : p ≤ 2 * len) (h0 : 0 < len) : oth len p r < len := by
  have := Nat.and_le_right (n := r) (m := p - 1)
  unfold oth
  split <;> omega
theorem brk_perm (a len p b : Nat) (hp : p ≤ 2 * len) (hl : a + len = b) : ∀ (s r : Nat) (m : Array Rat) (i : Nat), a ≤ i → i + s ≤ b → b ≤ m.size → Go.Sort.PermIn a b m (brk a len p s r m i)
  | 0, r, m, i, h1, h2, h3 => Go.Sort.permIn_refl m a b
  | s + 1, r, m, i, h1, h2, h3 => by
    have ho := oth_lt (len := len) (p := p) (r := nx3 (nx2 (nx1 r))) hp (by omega)
    have h4 := Go.Sort.swp_permIn m a b i (a + oth len p (nx3 (nx2 (nx1 r)))) h1 (by omega) (by omega) (by omega) h3
    exact Go.Sort.permIn_trans m _ _ a b h4 (brk_perm a len p b hp hl s _ _ (i + 1) (by omega) (by omega) (by rw [Go.Sort.size_swp]; exact h3))
def brkAll (d : Array Rat) (a b : Nat) : Array Rat := brk a (b - a) (2 ^ len8 (b - a)) 3 (b - a) d (a + (b - a) / 4 * 2 - 1)
theorem brkAll_perm (d : Array Rat) {a b : Nat} (h : a + 12 < b) (hb : b ≤ d.size) (hn : d.size < 256) : Go.Sort.PermIn a b d (brkAll d a b) :=
  brk_perm a (b - a) _ b ((len8_le (b - a) (by omega)).2.1 (by omega)) (by omega) 3 _ d _ (by omega) (by omega) hb
theorem sl_break (d : Array Rat) (a b : Nat) (hd : AllOk d) (hn : d.size < 256) (hab : a + 12 < b) (hb : b ≤ d.size) : RetB Tryz.prog 161 [ow d, .d (.int .i64 a), .d (.int .i64 b), cmpV] (lookB [(1000, bq d)]) (.tup []) (lookB [(1000, bq (brkAll d a b))]) := by
  have hl : d.toList.length = d.size := Array.length_toList
  have hr := (brkAll_perm d hab hb hn).1
  obtain ⟨R, hR⟩ : ∃ R, brkAll d a b = R := ⟨_, rfl⟩
  rw [hR] at hr ⊢
  unfold brkAll at hR
  have np := sl_power (b - a) (by omega)
  obtain ⟨p0, p1, p2⟩ := len8_le (b - a) (by omega)
  have p3 : 2 ^ len8 (b - a) ≤ 256 := Nat.pow_le_pow_right (n := 2) (by decide) p0
  generalize 2 ^ len8 (b - a) = p at *
  obtain ⟨L, hL⟩ : ∃ L, b - a = L := ⟨_, rfl⟩
  rw [hL] at np hR p1 p2
  have p1 := p1 (by omega)
  obtain ⟨I, hI⟩ : ∃ I, a + L / 4 * 2 - 1 = I := ⟨_, rfl⟩
  rw [hI] at hR
  refine retB_of_awp tab [1000] Tryz.func161 rfl rfl rfl (Nat.le_of_ble_eq_true rfl) rfl ⟨by show d.toList.length ≤ R.toList.length; simp [hr], trivial⟩ (fun w0 F0 A io0 => ?_)
  repeat' (first
    | (show awpL _ _ _ _ _; first | refine goL ?_ | refine cl 170 tt rfl rfl rfl (hr := np) (k := ?_) | (refine gdLG ?_ ?_ <;> intro _ <;> try (exfalso; omega)))
    | (show awp _ _ _ _; first | refine goA ?_ | refine rg 10 18 ?_ | (refine cdG ?_ ?_ <;> intro _ <;> try (exfalso; omega)))
    | (show andThen _ _ _ _; refine goN ?_)
    | (show inBlock _ _ _ _; refine goB ?_)
    | (show awpR _ _ _ _ _ _ _; first | refine goR ?_ | refine clR 170 tt rfl rfl rfl (hr := np) (k := ?_) | (refine gdRG ?_ ?_ <;> intro _ <;> try (exfalso; omega)))
    | (show retPost _ _ _ _ _; refine finG ?_)
    | (show retPostB _ _ _ _ _ _; first | refine finB rfl rfl ?_ ?_ | refine finBT rfl rfl rfl ?_ ?_))
  refine awp_loop3 (fun (m : Array Rat) (r s : Nat) => ([(0, ow d), (1, .d (.int .i64 a)), (2, .d (.int .i64 b)), (3, cmpV), (8, .d (.int .i64 L)), (9, .ptr 9 0), (10, .d (.int .u64 p)), (11, .d (.int .i64 ((I : Int) + 3 - s)))], [(1000, bq m), (9, bu r)])) (fun m r s => m.size = d.size ∧ AllOk m ∧ s ≤ 3 ∧ r < 18446744073709551616 ∧ brk a L p s r m (I + 3 - s) = R) (fun m r s => s) d L 3 ⟨rfl, hd, Nat.le_refl _, by omega, hR⟩ ⟨rfl, rfl, rfl, rfl, iv (by omega), rfl, rfl, iv (by omega), rfl⟩ ⟨rfl, boxU (by omega), trivial⟩ (fun m r s hi => ?_)
  obtain ⟨q1, q2, q3, q4, q5⟩ := hi
  have hml : m.toList.length = m.size := Array.length_toList
  clear hR hd
  cases s with
  | zero =>
    have e : m = R := q5
    subst e
    clear q5
    repeat' (first
      | (show awpL _ _ _ _ _; first | refine goL ?_ | (refine gdLG ?_ ?_ <;> intro _ <;> try (exfalso; omega)))
      | (show awp _ _ _ _; first | refine goA ?_ | refine rg 10 18 ?_ | (refine cdG ?_ ?_ <;> intro _ <;> try (exfalso; omega)))
      | (show andThen _ _ _ _; refine goN ?_)
      | (show inBlock _ _ _ _; refine goB ?_)
      | (show awpR _ _ _ _ _ _ _; first | refine goR ?_ | (refine gdRG ?_ ?_ <;> intro _ <;> try (exfalso; omega)))
      | (show retPost _ _ _ _ _; refine finG ?_)
      | (show retPostB _ _ _ _ _ _; first | refine finB rfl rfl ?_ ?_ | refine finBT rfl rfl rfl ?_ ?_))
    all_goals first | exact leVT | exact ⟨rfl, trivial⟩
  | succ s =>
    have nc := sl_next r q4
    unfold brk at q5
    have lz : nx3 (nx2 (nx1 r)) < 18446744073709551616 := by
      have lx : nx1 r < 18446744073709551616 := xor_lt q4 (Nat.mod_lt _ (by decide))
      have ly : nx2 (nx1 r) < 18446744073709551616 := xor_lt lx (Nat.lt_of_le_of_lt (Nat.div_le_self _ _) lx)
      exact xor_lt ly (Nat.mod_lt _ (by decide))
    generalize nx3 (nx2 (nx1 r)) = z at *
    have ho := oth_lt (len := L) (p := p) (r := z) p1 (by omega)
    have ha := Nat.and_le_right (n := z) (m := p - 1)
    obtain ⟨o, hoo⟩ : ∃ o, oth L p z = o := ⟨_, rfl⟩
    rw [hoo] at q5 ho
    unfold oth at hoo
    have ez : ((z : Int).toNat &&& ((p : Int) - 1).toNat) = z &&& (p - 1) := by
      rw [Int.toNat_natCast, show ((p : Int) - 1).toNat = p - 1 by omega]
    generalize z &&& (p - 1) = v at *
    have hla : (((z : Int).toNat &&& ((p : Int) - 1).toNat : Nat) : Int) ≤ 255 := by omega
    repeat' (first
      | (show awpL _ _ _ _ _; first | refine goL ?_ | refine clB 171 [] (nc) tt rfl rfl rfl rfl rfl rfl leVT allB ?_ | (refine gdLG ?_ ?_ <;> intro _ <;> try (exfalso; omega)))
      | (show awp _ _ _ _; first | refine stopA 8 tt ?_)
      | (show awp _ _ _ _; first | refine goA ?_ | refine rg 10 18 ?_ | (refine cdG ?_ ?_ <;> intro _ <;> try (exfalso; omega)))
      | (show andThen _ _ _ _; refine goN ?_)
      | (show inBlock _ _ _ _; refine goB ?_)
      | (show awpR _ _ _ _ _ _ _; first | refine goR ?_ | (refine gdRG ?_ ?_ <;> intro _ <;> try (exfalso; omega)))
      | (show retPost _ _ _ _ _; refine finG ?_)
      | (show retPostB _ _ _ _ _ _; first | refine finB rfl rfl ?_ ?_ | refine finBT rfl rfl rfl ?_ ?_))
    refine stopOut ?_
    refine awp_slots [(0, ow d), (1, .d (.int .i64 a)), (2, .d (.int .i64 b)), (3, cmpV), (8, .d (.int .i64 L)), (9, .ptr 9 0), (10, .d (.int .u64 p)), (11, .d (.int .i64 ((I : Int) + 3 - ((s + 1 : Nat) : Int)))), (12, .d (.int .i64 v))] [(1000, bq m), (9, bu z)] ⟨rfl, rfl, rfl, rfl, rfl, rfl, rfl, rfl, iv (by rw [← ez]), rfl⟩ ⟨rfl, rfl, trivial⟩ ?_
    clear ez hla nc
    by_cases c : L ≤ v
    · rw [if_pos c] at hoo
      repeat' (first
        | (show awpL _ _ _ _ _; first | refine goL ?_ | (refine gdLG ?_ ?_ <;> intro _ <;> try (exfalso; omega)))
        | (show awp _ _ _ _; first | refine goA ?_ | refine rg 10 18 ?_ | (refine cdG ?_ ?_ <;> intro _ <;> try (exfalso; omega)))
        | (show andThen _ _ _ _; refine goN ?_)
        | (show inBlock _ _ _ _; refine goB ?_)
        | (show awpR _ _ _ _ _ _ _; first | refine goR ?_ | (refine gdRG ?_ ?_ <;> intro _ <;> try (exfalso; omega)))
        | (show retPost _ _ _ _ _; refine finG ?_)
        | (show retPostB _ _ _ _ _ _; first | refine finB rfl rfl ?_ ?_ | refine finBT rfl rfl rfl ?_ ?_))
      exact ⟨Go.Sort.swp m (I + 3 - (s + 1)) (a + o), z, s, ⟨by rw [Go.Sort.size_swp]; exact q1, q2.swp (by omega) (by omega), by omega, lz, by first | exact q5 | (rw [← q5]; congr 1 <;> omega)⟩, by omega, ⟨rfl, rfl, rfl, rfl, rfl, rfl, rfl, iv (by omega), rfl⟩, blkSw, rfl, trivial⟩
    · rw [if_neg c] at hoo
      repeat' (first
        | (show awpL _ _ _ _ _; first | refine goL ?_ | (refine gdLG ?_ ?_ <;> intro _ <;> try (exfalso; omega)))
        | (show awp _ _ _ _; first | refine goA ?_ | refine rg 10 18 ?_ | (refine cdG ?_ ?_ <;> intro _ <;> try (exfalso; omega)))
        | (show andThen _ _ _ _; refine goN ?_)
        | (show inBlock _ _ _ _; refine goB ?_)
        | (show awpR _ _ _ _ _ _ _; first | refine goR ?_ | (refine gdRG ?_ ?_ <;> intro _ <;> try (exfalso; omega)))
        | (show retPost _ _ _ _ _; refine finG ?_)
        | (show retPostB _ _ _ _ _ _; first | refine finB rfl rfl ?_ ?_ | refine finBT rfl rfl rfl ?_ ?_))
      exact ⟨Go.Sort.swp m (I + 3 - (s + 1)) (a + o), z, s, ⟨by rw [Go.Sort.size_swp]; exact q1, q2.swp (by omega) (by omega), by omega, lz, by first | exact q5 | (rw [← q5]; congr 1 <;> omega)⟩, by omega, ⟨rfl, rfl, rfl, rfl, rfl, rfl, rfl, iv (by omega), rfl⟩, blkSw, rfl, trivial⟩
end Go.Proofs.YtoppaphffnojdaaGreat
