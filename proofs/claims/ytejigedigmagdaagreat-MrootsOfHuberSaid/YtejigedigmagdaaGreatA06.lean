/-
  Contracts of functions of the program, and the layer that they are walked with: N04 NatsE NatsF N05 NatsG N06 N07 N08 RatsQ R06 N09 RatsC N10 RatsD N11 RatsM Itv N12 Contr. Conditions: as each says.
-/
import Derived.Test.YtejigedigmagdaaGreatA05
set_option linter.unnecessarySimpa false
set_option linter.unusedVariables false
set_option linter.unusedSimpArgs false
set_option maxHeartbeats 8000000
namespace Go.Proofs.YtejigedigmagdaaGreat
open Go.Vw
attribute [local irreducible] awp awpL awpR

section
attribute [local irreducible] Int.decLt Int.decLe
theorem natural_guess (u2 u1 u0 v1 v0 t g : Nat) (ht : t = u2 * 4294967296 + u1) (hg : g = est 4294967296 (t * 4294967296 + u0) (v1 * 4294967296 + v0)) (h2 : u2 ≤ v1) (h1 : u1 < 4294967296) (h0 : u0 < 4294967296) (k1 : v1 < 4294967296) (k0 : v0 < 4294967296) (hv : 0 < v1) : Ret Tryz.prog 202 [.int .u32 u2, .int .u32 u1, .int .u32 u0, .int .u32 v1, .int .u32 v0] (· = .int .u64 g) := by
  have e1 := or_word (a := u2) h1
  rw [← ht] at e1
  have hin : g ≤ t / v1 := by rw [hg]; exact est_init (by decide) hv h0
  have hdm := Nat.div_add_mod t v1
  have hml := Nat.mod_lt t hv
  have htl : t < 18446744073709551616 := by omega
  have hqt := Nat.div_le_self t v1
  have hqb : ∀ q r, q * v1 + r = t → 4294967296 ≤ q → r < 4294967296 := fun q r he hq => by
    have := Nat.mul_le_mul_right v1 hq
    omega
  have hgo : ∀ q r, q * v1 + r = t → g ≤ q → (4294967296 ≤ q ∨ r * 4294967296 + u0 < q * v0) → 1 ≤ q ∧ g ≤ q - 1 ∧ (q - 1) * v1 + (r + v1) = t := fun q r he hq hgg => by
    rw [hg] at hq ⊢
    exact est_go (by decide) hv he h0 hq hgg
  have hdone : ∀ q r, q * v1 + r = t → g ≤ q → (r < 4294967296 ∨ q < 4294967296) → (r < 4294967296 → q < 4294967296 ∧ q * v0 ≤ r * 4294967296 + u0) → q = g := fun q r he hq hB hst => by
    rw [hg] at hq ⊢
    exact est_done (by decide) hv he k0 hq hB hst
  clear hg ht
  refine ret_of_awp tab Tryz.func202 rfl rfl (Nat.le_of_ble_eq_true rfl) (fun w0 F0 => ?_)
  repeat' (first | refine wG ?_ | refine rg 2 9 ?_ | refine wS ?_ ?_ <;> intro _ | refine finG ?_)
  rw [e1]
  refine awp_loop2 (fun (q r : Nat) => ([(2, .d (.int .u32 u0)), (3, .d (.int .u32 v1)), (4, .d (.int .u32 v0)), (12, .d (.int .u64 q)), (13, .d (.int .u64 r))], [])) (fun q r => q * v1 + r = t ∧ g ≤ q ∧ (r < 4294967296 ∨ q < 4294967296) ∧ r < 8589934592 ∧ q < 18446744073709551616) (fun q r => q) (t / v1) (t % v1) ⟨by rw [Nat.mul_comm]; exact hdm, hin, by omega, by omega, by omega⟩ ⟨rfl, rfl, rfl, iv (Int.natCast_ediv _ _).symm, iv (Int.natCast_emod _ _).symm, rfl⟩ trivial (fun q r h => ?_)
  obtain ⟨i1, i2, i3, i4, i5⟩ := h
  by_cases hr : r < 4294967296
  · by_cases hq : q < 4294967296
    · have hqv : q * v0 ≤ 4294967295 * 4294967295 := Nat.mul_le_mul (by omega) (by omega)
      have e2 := or_word (a := r) h0
      repeat' (first | refine wG ?_ | refine rg 2 9 ?_ | refine wS ?_ ?_ <;> intro _ | refine finG ?_)
      · rename_i x
        have x' : r * 4294967296 + u0 < q * v0 := by rw [e2] at x; exact Int.ofNat_lt.1 (by simpa using x)
        obtain ⟨g1, g2, g3⟩ := hgo q r i1 i2 (.inr x')
        exact ⟨q - 1, r + v1, ⟨g3, g2, by omega, by omega, by omega⟩, by omega, ⟨rfl, rfl, rfl, iv (by omega), iv (by omega), rfl⟩, trivial⟩
      · rename_i x
        have x' : q * v0 ≤ r * 4294967296 + u0 := by rw [e2] at x; exact Nat.not_lt.1 fun h => x (by have := Int.ofNat_lt.2 h; simpa using this)
        rw [hdone q r i1 i2 (.inl hr) (fun _ => ⟨hq, x'⟩)]
    · repeat' (first | refine wG ?_ | refine rg 2 9 ?_ | refine wS ?_ ?_ <;> intro _ | refine finG ?_)
      obtain ⟨g1, g2, g3⟩ := hgo q r i1 i2 (.inl (by omega))
      exact ⟨q - 1, r + v1, ⟨g3, g2, (Nat.lt_or_ge (q - 1) 4294967296).elim .inr (fun h => .inl (hqb _ _ g3 h)), by omega, by omega⟩, by omega, ⟨rfl, rfl, rfl, iv (by omega), iv (by omega), rfl⟩, trivial⟩
  · repeat' (first | refine wG ?_ | refine rg 2 9 ?_ | refine wS ?_ ?_ <;> intro _ | refine finG ?_)
    rw [hdone q r i1 i2 i3 (fun h => absurd h hr)]
end
theorem natural_reduce (U v : List Nat) (j L q : Nat) (hU : WF U) (hv : WF v) (hj : j + L ≤ U.length) (hUl : U.length < 100000000000) (hvl : v.length < L) (hq : q < 4294967296) : RetB Tryz.prog 203 [.own 1000 j L 111 1, .d (u32s v), .d (.int .u64 q)] (lookB [(1000, .data 111 1 (eN .u32) 0 U)]) (.d (.bool (decide (val ((U.drop j).take L) < q * val v)))) (lookB [(1000, .data 111 1 (eN .u32) 0 (mid U j (padL L (if val ((U.drop j).take L) < q * val v then val ((U.drop j).take L) + B ^ L - q * val v else val ((U.drop j).take L) - q * val v))))]) := by
  refine retB_of_awp tab [1000] Tryz.func203 rfl rfl rfl (Nat.le_of_ble_eq_true rfl) rfl ⟨by show _ ≤ (mid U j _).length; rw [mid_len (by rw [padL_len]; exact hj)]; exact Nat.le_refl _, trivial⟩ (fun w0 F0 A io0 => ?_)
  repeat' (first | refine wG ?_ | refine wS ?_ ?_ <;> intro _ | refine wB ?_ ?_)
  refine awp_loop2 (fun (w : List Nat) (s : Nat × Nat) => ([(0, .own 1000 j L 111 1), (1, .d (u32s v)), (2, .d (.int .u64 q)), (7, .d (.int .u64 s.1)), (8, .d (.int .u32 s.2)), (12, .d (.int .i64 L)), (13, .d (.int .i64 w.length))], [(1000, .data 111 1 (eN .u32) 0 (mid U j w))])) (fun w s => w.length ≤ L ∧ WF w ∧ s.1 < 4294967296 ∧ s.2 ≤ 1 ∧ val w + q * val (v.take w.length) = val ((U.drop j).take w.length) + B ^ w.length * (s.2 + s.1) ∧ s.1 * B ^ w.length ≤ q * val (v.take w.length)) (fun w s => L - w.length) [] (0, 0) ⟨by simp, WF.nil, by simp, by simp, by simp [val], by simp⟩ ⟨rfl, rfl, rfl, rfl, rfl, rfl, rfl, rfl⟩ ⟨by rw [mid_nil]; rfl, trivial⟩ (fun w s h => ?_)
  obtain ⟨c, b⟩ := s
  obtain ⟨i1, i2, i3, i4, i5, i6⟩ := h
  simp only at i3 i4 i5 i6
  have hml := mid_len (U := U) (j := j) (w := w) (by omega)
  by_cases hin : w.length < L
  · have hmg := mid_getD (U := U) (j := j) (w := w) (by omega)
    have hms := fun d => mid_set (U := U) (j := j) (w := w) (d := d) (by omega)
    have gu := hU.getD (j + w.length)
    have gy := hv.getD w.length
    rw [B_val] at gu gy
    rw [← hmg] at gu
    have hqy : q * v.getD w.length 0 ≤ 4294967295 * 4294967295 := Nat.mul_le_mul (by omega) (by omega)
    obtain ⟨s, hs⟩ : ∃ s, c + q * v.getD w.length 0 = s := ⟨_, rfl⟩
    have hsm : s % 4294967296 < 4294967296 := Nat.mod_lt _ (by decide)
    have hsub := bits_Sub32 _ _ _ gu hsm i4
    obtain ⟨d, hd⟩ : ∃ d : Nat, (((mid U j w).getD (j + w.length) 0 : Nat) : Int) - (s % 4294967296 : Nat) - b + (if (mid U j w).getD (j + w.length) 0 < s % 4294967296 + b then 4294967296 else 0) = d := ⟨((((mid U j w).getD (j + w.length) 0 : Nat) : Int) - (s % 4294967296 : Nat) - b + (if (mid U j w).getD (j + w.length) 0 < s % 4294967296 + b then 4294967296 else 0)).toNat, by split <;> omega⟩
    obtain ⟨b', hb', hb1⟩ : ∃ b' : Nat, (if (mid U j w).getD (j + w.length) 0 < s % 4294967296 + b then 1 else 0) = b' ∧ b' ≤ 1 := ⟨_, rfl, by split <;> omega⟩
    rw [hd, show ((if (mid U j w).getD (j + w.length) 0 < s % 4294967296 + b then 1 else 0 : Int)) = (b' : Int) by rw [← hb']; split <;> rfl] at hsub
    obtain ⟨k1, k2, k3, k4, k5⟩ := redL_step hU i2 hv (show j + w.length < U.length by omega) hq i3 i4 i5 i6 (by rw [hs, ← hmg]; exact hd.symm)
    rw [hs] at k1 k2 k4 k5
    rw [← hmg, hb'] at k4
    have hms := hms d
    clear i5 i6
    rcases j with _ | jj
    · rw [Nat.zero_add] at hsub hms
      by_cases hvn : w.length < v.length
      · repeat' (first | refine wG ?_ | refine wC hsub ?_ | refine wS ?_ ?_ <;> intro _ | refine wB ?_ ?_)
        refine ⟨w ++ [d], (s / 4294967296, b'), ⟨by simp; omega, k3, k2, hb1, ?_, ?_⟩, by simp; omega, ⟨rfl, rfl, rfl, iv (by dsimp only; omega), rfl, rfl, iv (by simp), rfl⟩, blkEq hms, trivial⟩
        · simpa using k4
        · simpa using k5
      · have hy0 := getD_take_le v w.length (by omega)
        rw [hy0] at hs
        repeat' (first | refine wG ?_ | refine wC hsub ?_ | refine wS ?_ ?_ <;> intro _ | refine wB ?_ ?_)
        refine ⟨w ++ [d], (s / 4294967296, b'), ⟨by simp; omega, k3, k2, hb1, ?_, ?_⟩, by simp; omega, ⟨rfl, rfl, rfl, iv (by dsimp only; omega), rfl, rfl, iv (by simp), rfl⟩, blkEq hms, trivial⟩
        · simpa using k4
        · simpa using k5
    · skip
      by_cases hvn : w.length < v.length
      · repeat' (first | refine wG ?_ | refine wC hsub ?_ | refine wS ?_ ?_ <;> intro _ | refine wB ?_ ?_)
        refine ⟨w ++ [d], (s / 4294967296, b'), ⟨by simp; omega, k3, k2, hb1, ?_, ?_⟩, by simp; omega, ⟨rfl, rfl, rfl, iv (by dsimp only; omega), rfl, rfl, iv (by simp), rfl⟩, blkEq hms, trivial⟩
        · simpa using k4
        · simpa using k5
      · have hy0 := getD_take_le v w.length (by omega)
        rw [hy0] at hs
        repeat' (first | refine wG ?_ | refine wC hsub ?_ | refine wS ?_ ?_ <;> intro _ | refine wB ?_ ?_)
        refine ⟨w ++ [d], (s / 4294967296, b'), ⟨by simp; omega, k3, k2, hb1, ?_, ?_⟩, by simp; omega, ⟨rfl, rfl, rfl, iv (by dsimp only; omega), rfl, rfl, iv (by simp), rfl⟩, blkEq hms, trivial⟩
        · simpa using k4
        · simpa using k5
  · have hwL : w.length = L := by omega
    rw [hwL] at i5 i6
    rw [List.take_of_length_le (show v.length ≤ L by omega)] at i5 i6
    have hvlt : q * val v < B ^ L := by
      have h1 := val_lt hv
      have h2 : B ^ (v.length + 1) ≤ B ^ L := Nat.pow_le_pow_right (by decide) hvl
      rw [Nat.pow_succ] at h2
      have h3 : q * val v ≤ B * val v := Nat.mul_le_mul_right _ (by rw [B_val]; omega)
      have h4 : B * val v < B * B ^ v.length := Nat.mul_lt_mul_of_pos_left h1 (by decide)
      rw [Nat.mul_comm B (B ^ v.length)] at h4
      omega
    have hWl : val ((U.drop j).take L) < B ^ L := by
      have := val_lt ((hU.drop j).take L)
      rwa [show ((U.drop j).take L).length = L by simp; omega] at this
    obtain ⟨d1, d2⟩ := redL_done i2 hwL hvlt i4 i5 i6 hWl
    rw [← d1]
    repeat' (first | refine wG ?_ | refine wS ?_ ?_ <;> intro _ | refine wB ?_ ?_)
    · have hb : (!decide ((b : Int) = 0)) = decide (val ((U.drop j).take L) < q * val v) := by
        by_cases hb0 : b = 0
        · rw [decide_eq_false (fun h => (d2.2 h) hb0)]; subst hb0; rfl
        · rw [decide_eq_true (d2.1 hb0), decide_eq_false (by omega)]; rfl
      show LeVT [.d (.bool (!decide ((b : Int) = 0)))] _
      rw [hb]
      exact leVT
    · exact ⟨rfl, trivial⟩
theorem natural_restore (U v : List Nat) (j L : Nat) (hU : WF U) (hv : WF v) (hj : j + L ≤ U.length) (hUl : U.length < 100000000000) (hvl : v.length < L) : RetB Tryz.prog 204 [.own 1000 j L 111 1, .d (u32s v)] (lookB [(1000, .data 111 1 (eN .u32) 0 U)]) (.tup []) (lookB [(1000, .data 111 1 (eN .u32) 0 (mid U j (padL L ((val ((U.drop j).take L) + val v) % B ^ L))))]) := by
  refine retB_of_awp tab [1000] Tryz.func204 rfl rfl rfl (Nat.le_of_ble_eq_true rfl) rfl ⟨by show _ ≤ (mid U j _).length; rw [mid_len (by rw [padL_len]; exact hj)]; exact Nat.le_refl _, trivial⟩ (fun w0 F0 A io0 => ?_)
  repeat' (first | refine wG ?_ | refine wS ?_ ?_ <;> intro _ | refine wB ?_ ?_)
  refine awp_loop2 (fun (w : List Nat) (c : Nat) => ([(0, .own 1000 j L 111 1), (1, .d (u32s v)), (4, .d (.int .u32 c)), (8, .d (.int .i64 L)), (9, .d (.int .i64 w.length))], [(1000, .data 111 1 (eN .u32) 0 (mid U j w))])) (fun w c => w.length ≤ L ∧ WF w ∧ c ≤ 1 ∧ val w + c * B ^ w.length = val ((U.drop j).take w.length) + val (v.take w.length)) (fun w c => L - w.length) [] 0 ⟨by simp, WF.nil, by simp, by simp [val]⟩ ⟨rfl, rfl, rfl, rfl, rfl, rfl⟩ ⟨by rw [mid_nil]; rfl, trivial⟩ (fun w c h => ?_)
  obtain ⟨i1, i2, i3, i4⟩ := h
  have hml := mid_len (U := U) (j := j) (w := w) (by omega)
  by_cases hin : w.length < L
  · have hmg := mid_getD (U := U) (j := j) (w := w) (by omega)
    have hms := fun d => mid_set (U := U) (j := j) (w := w) (d := d) (by omega)
    have gu := hU.getD (j + w.length)
    have gy := hv.getD w.length
    rw [B_val] at gu gy
    obtain ⟨k1, k2, k3⟩ := resL_step hU i2 hv (show j + w.length < U.length by omega) i3 i4
    rw [← hmg] at gu k1 k2 k3
    obtain ⟨s, hs⟩ : ∃ s, (mid U j w).getD (j + w.length) 0 + v.getD w.length 0 + c = s := ⟨_, rfl⟩
    have hadd := bits_Add32 _ _ _ gu gy i3
    rw [hs] at k1 k2 k3 hadd
    have hms := hms (s % 4294967296)
    clear i4
    rcases j with _ | jj
    · rw [Nat.zero_add] at hadd hms
      by_cases hvn : w.length < v.length
      · repeat' (first | refine wG ?_ | refine wC hadd ?_ | refine wS ?_ ?_ <;> intro _ | refine wB ?_ ?_)
        refine ⟨w ++ [s % 4294967296], s / 4294967296, ⟨by simp; omega, k1, k2, ?_⟩, by simp; omega, ⟨rfl, rfl, rfl, rfl, iv (by simp), rfl⟩, blkEq hms, trivial⟩
        simpa using k3
      · have hy0 := getD_take_le v w.length (by omega)
        rw [hy0] at hadd
        repeat' (first | refine wG ?_ | refine wC hadd ?_ | refine wS ?_ ?_ <;> intro _ | refine wB ?_ ?_)
        refine ⟨w ++ [s % 4294967296], s / 4294967296, ⟨by simp; omega, k1, k2, ?_⟩, by simp; omega, ⟨rfl, rfl, rfl, rfl, iv (by simp), rfl⟩, blkEq hms, trivial⟩
        simpa using k3
    · by_cases hvn : w.length < v.length
      · repeat' (first | refine wG ?_ | refine wC hadd ?_ | refine wS ?_ ?_ <;> intro _ | refine wB ?_ ?_)
        refine ⟨w ++ [s % 4294967296], s / 4294967296, ⟨by simp; omega, k1, k2, ?_⟩, by simp; omega, ⟨rfl, rfl, rfl, rfl, iv (by simp), rfl⟩, blkEq hms, trivial⟩
        simpa using k3
      · have hy0 := getD_take_le v w.length (by omega)
        rw [hy0] at hadd
        repeat' (first | refine wG ?_ | refine wC hadd ?_ | refine wS ?_ ?_ <;> intro _ | refine wB ?_ ?_)
        refine ⟨w ++ [s % 4294967296], s / 4294967296, ⟨by simp; omega, k1, k2, ?_⟩, by simp; omega, ⟨rfl, rfl, rfl, rfl, iv (by simp), rfl⟩, blkEq hms, trivial⟩
        simpa using k3
  · have hwL : w.length = L := by omega
    rw [hwL, List.take_of_length_le (show v.length ≤ L by omega)] at i4
    have d1 := resL_done i2 hwL i4
    rw [← d1]
    repeat' (first | refine wG ?_ | refine wS ?_ ?_ <;> intro _ | refine wB ?_ ?_)
    · exact LeVT.nil
    · exact ⟨rfl, trivial⟩
end Go.Proofs.YtejigedigmagdaaGreat

/-
  Long division of lists of limbs: one digit, and the end. Conditions: as each says.
-/
namespace Go.Vw
theorem mid_drop {U w : List Nat} {j : Nat} (h : j ≤ U.length) : (mid U j w).drop j = w ++ U.drop (j + w.length) := by
  unfold mid
  rw [List.append_assoc, List.drop_append_of_le_length (by simp; omega), List.drop_eq_nil_of_le (by simp; omega), List.nil_append]
theorem mid_win {U w : List Nat} {j : Nat} (h : j ≤ U.length) : ((mid U j w).drop j).take w.length = w := by
  rw [mid_drop h, List.take_left]
theorem mid_take {U w : List Nat} {j : Nat} (h : j ≤ U.length) : (mid U j w).take j = U.take j := by
  unfold mid
  rw [List.append_assoc, List.take_append_of_le_length (by simp; omega), List.take_take, Nat.min_self]
theorem mid_mid {U w x : List Nat} {j : Nat} (h : j + w.length ≤ U.length) (hl : x.length = w.length) : mid (mid U j w) j x = mid U j x := by
  have h1 := mid_take (U := U) (w := w) (j := j) (by omega)
  show (mid U j w).take j ++ x ++ (mid U j w).drop (j + x.length) = _
  rw [h1, ← List.drop_drop, mid_drop (by omega), hl, List.drop_left]
  unfold mid
  rw [hl]
theorem val_mid {U w : List Nat} {j : Nat} (h : j + w.length ≤ U.length) : val (mid U j w) + B ^ j * val ((U.drop j).take w.length) = val U + B ^ j * val w := by
  have h1 : val U = val (U.take j) + B ^ j * val (U.drop j) := by
    conv => lhs; rw [← List.take_append_drop j U, val_append]
    rw [List.length_take, Nat.min_eq_left (by omega)]
  have h2 : val (U.drop j) = val ((U.drop j).take w.length) + B ^ w.length * val (U.drop (j + w.length)) := by
    conv => lhs; rw [← List.take_append_drop w.length (U.drop j), val_append]
    rw [List.length_take, List.drop_drop, Nat.min_eq_left (by simp; omega)]
  unfold mid
  rw [List.append_assoc, val_append, val_append, List.length_take, Nat.min_eq_left (by omega), h1, h2, Nat.mul_add, Nat.mul_add]
  omega
theorem win_all {U : List Nat} {j n V : Nat} (hU : WF U) (hj : j + n + 1 ≤ U.length) (hV : V < B ^ n) (hlt : val (U.drop (j + 1)) < V) : val ((U.drop j).take (n + 1)) = val (U.drop j) ∧ val (U.drop (j + n + 1)) = 0 ∧ val (U.drop j) < V * B := by
  have h1 : val (U.drop (j + 1)) = val ((U.drop (j + 1)).take n) + B ^ n * val (U.drop (j + n + 1)) := by
    conv => lhs; rw [← List.take_append_drop n (U.drop (j + 1)), val_append]
    rw [List.length_take, List.drop_drop, Nat.min_eq_left (by simp; omega), show j + 1 + n = j + n + 1 by omega]
  have h0 : val (U.drop (j + n + 1)) = 0 := by
    rcases Nat.eq_zero_or_pos (val (U.drop (j + n + 1))) with h | h
    · exact h
    · have := Nat.mul_le_mul_left (B ^ n) h
      omega
  have h2 : val (U.drop j) = val ((U.drop j).take (n + 1)) + B ^ (n + 1) * val (U.drop (j + n + 1)) := by
    conv => lhs; rw [← List.take_append_drop (n + 1) (U.drop j), val_append]
    rw [List.length_take, List.drop_drop, Nat.min_eq_left (by simp; omega), show j + (n + 1) = j + n + 1 by omega]
  rw [h0, Nat.mul_zero, Nat.add_zero] at h2
  refine ⟨h2.symm, h0, ?_⟩
  rw [val_drop U j (by omega)]
  have h3 := hU.getD j
  have h4 := Nat.mul_le_mul_left B (show val (U.drop (j + 1)) + 1 ≤ V from hlt)
  rw [Nat.mul_comm V B]
  rw [Nat.mul_add] at h4
  omega
theorem digit_done {W V g L : Nat} (hV : 0 < V) (hg : g = W / V ∨ g = W / V + 1) (hVL : V < B ^ L) : (if W < g * V then (W + B ^ L - g * V + V) % B ^ L else W - g * V) = W % V ∧ (if W < g * V then g - 1 else g) = W / V := by
  have h1 := Nat.div_add_mod W V
  have h2 := Nat.mod_lt W hV
  rw [Nat.mul_comm] at h1
  rcases hg with rfl | rfl
  · rw [if_neg (by omega), if_neg (by omega)]
    exact ⟨by omega, rfl⟩
  · have h3 : (W / V + 1) * V = W / V * V + V := by rw [Nat.add_mul, Nat.one_mul]
    rw [if_pos (by omega), if_pos (by omega)]
    refine ⟨?_, by simp⟩
    rw [h3]
    have h4 : W + B ^ L - (W / V * V + V) + V = W % V + B ^ L := by omega
    rw [h4, Nat.add_mod_right, Nat.mod_eq_of_lt (by omega)]
structure DivInv (A V : Nat) (n : Nat) (U Q : List Nat) (j : Nat) : Prop where
  wU : WF U
  wQ : WF Q
  eq : A = val (Q.drop j) * (B ^ j * V) + val U
  lt : val (U.drop j) < V
theorem DivInv.step {A V n j : Nat} {U Q : List Nat} (h : DivInv A V n U Q (j + 1)) (hV : V < B ^ n) (hV0 : 0 < V) (hj : j + n + 1 ≤ U.length) (hQ : j < Q.length) : val ((U.drop j).take (n + 1)) < V * B ∧ val ((U.drop j).take (n + 1)) / V < B ∧ DivInv A V n (mid U j (padL (n + 1) (val ((U.drop j).take (n + 1)) % V))) (Q.set j (val ((U.drop j).take (n + 1)) / V)) j := by
  obtain ⟨w1, w2, w3⟩ := win_all h.wU hj hV h.lt
  rw [w1]
  have hq : val (U.drop j) / V < B := by rw [Nat.div_lt_iff_lt_mul hV0, Nat.mul_comm]; exact w3
  refine ⟨w3, hq, mid_wf h.wU (padL_wf _ _), h.wQ.set _ hq, ?_, ?_⟩
  · have hm := val_mid (U := U) (j := j) (w := padL (n + 1) (val (U.drop j) % V)) (by rw [padL_len]; omega)
    have hr : val (U.drop j) % V < B ^ (n + 1) := by
      have := Nat.mod_lt (val (U.drop j)) hV0
      have h2 : B ^ n ≤ B ^ (n + 1) := Nat.pow_le_pow_right (by decide) (by omega)
      exact Nat.lt_of_lt_of_le (Nat.lt_trans this hV) h2
    rw [padL_len, padL_val, Nat.mod_eq_of_lt hr, w1] at hm
    have hd := val_drop (Q.set j (val (U.drop j) / V)) j (by simpa using hQ)
    rw [show (Q.set j (val (U.drop j) / V)).drop (j + 1) = Q.drop (j + 1) from List.drop_set_of_lt (by omega)] at hd
    have hg : (Q.set j (val (U.drop j) / V)).getD j 0 = val (U.drop j) / V := by simp [List.getD_eq_getElem?_getD, hQ]
    rw [hg] at hd
    rw [hd, Nat.add_mul, h.eq]
    have hdm := Nat.div_add_mod (val (U.drop j)) V
    generalize val (U.drop j) / V = q at *
    generalize val (U.drop j) % V = r at *
    generalize val (U.drop j) = W at *
    have e1 : B * val (Q.drop (j + 1)) * (B ^ j * V) = val (Q.drop (j + 1)) * (B ^ (j + 1) * V) := by rw [Nat.pow_succ]; ac_rfl
    have e2 : q * (B ^ j * V) = B ^ j * (V * q) := by ac_rfl
    rw [e1, e2]
    rw [← hdm, Nat.mul_add] at hm
    omega
  · rw [mid_drop (by omega), val_append, padL_len, padL_val, show j + (n + 1) = j + n + 1 by omega, w2, Nat.mul_zero, Nat.add_zero]
    exact Nat.lt_of_le_of_lt (Nat.mod_le _ _) (Nat.mod_lt _ hV0)
theorem DivInv.done {a b s n : Nat} {U Q : List Nat} (hb : 0 < b) (h : DivInv (a * 2 ^ s) (b * 2 ^ s) n U Q 0) : val Q = a / b ∧ val U / 2 ^ s = a % b := by
  have hp : 0 < 2 ^ s := Nat.pow_pos (by decide)
  have h1 := h.eq
  have h2 := h.lt
  rw [List.drop_zero, Nat.pow_zero, Nat.one_mul] at h1
  rw [List.drop_zero] at h2
  have h3 : a * 2 ^ s / (b * 2 ^ s) = a / b := Nat.mul_div_mul_right _ _ hp
  have h4 : a * 2 ^ s % (b * 2 ^ s) = a % b * 2 ^ s := Nat.mul_mod_mul_right _ _ _
  have h5 : val Q = a * 2 ^ s / (b * 2 ^ s) := by
    rw [h1, Nat.add_comm, Nat.mul_comm (val Q), Nat.add_mul_div_left _ _ (Nat.mul_pos hb hp), Nat.div_eq_of_lt h2, Nat.zero_add]
  have h6 : val U = a * 2 ^ s % (b * 2 ^ s) := by
    rw [h1, Nat.add_comm, Nat.mul_comm (val Q), Nat.add_mul_mod_self_left, Nat.mod_eq_of_lt h2]
  exact ⟨h5.trans h3, by rw [h6, h4, Nat.mul_div_cancel _ hp]⟩
end Go.Vw

/-
  Long division of lists of limbs: the estimate of one digit in terms of the limbs. Conditions: as each says.
-/
namespace Go.Vw
structure Hid (p : Prop) : Prop where
  out : p
theorem one_of {q x : Nat} (h : q ≤ x) (h2 : x ≤ q + 1) : x = q ∨ x = q + 1 := by omega
theorem DivInv.guess {A V k j : Nat} {U Q v : List Nat} (h : DivInv A V (k + 2) U Q (j + 1)) (hv : val v = V) (wv : WF v) (hvl : v.length = k + 2) (hVge : B ^ (k + 1) ≤ V) (hj : j + (k + 2) + 1 ≤ U.length) :
    U.getD (j + k + 2) 0 ≤ v.getD (k + 1) 0 ∧ 0 < v.getD (k + 1) 0 ∧ val ((U.drop j).take (k + 3)) / V ≤ est B ((U.getD (j + k + 2) 0 * B + U.getD (j + k + 1) 0) * B + U.getD (j + k) 0) (v.getD (k + 1) 0 * B + v.getD k 0) ∧ est B ((U.getD (j + k + 2) 0 * B + U.getD (j + k + 1) 0) * B + U.getD (j + k) 0) (v.getD (k + 1) 0 * B + v.getD k 0) ≤ val ((U.drop j).take (k + 3)) / V + 1 := by
  have hVlt : V < B ^ (k + 2) := by have := val_lt wv; rw [hv, hvl] at this; exact this
  obtain ⟨w1, w2, w3⟩ := win_all h.wU hj hVlt h.lt
  rw [← w1] at w3
  have hW : val ((U.drop j).take (k + 3)) = val ((U.drop j).take k) + B ^ k * U.getD (j + k) 0 + B ^ (k + 1) * U.getD (j + k + 1) 0 + B ^ (k + 2) * U.getD (j + k + 2) 0 := by
    rw [show k + 3 = k + 2 + 1 from rfl, win_succ (by omega), show k + 2 = k + 1 + 1 from rfl, win_succ (by omega), win_succ (by omega)]; rfl
  have hVe : V = val (v.take k) + B ^ k * v.getD k 0 + B ^ (k + 1) * v.getD (k + 1) 0 := by
    rw [← hv, ← val_take_all v (show v.length ≤ k + 1 + 1 by omega), val_take_succ, val_take_succ]
  have g0 := h.wU.getD (j + k)
  have g1 := h.wU.getD (j + k + 1)
  have g2 := h.wU.getD (j + k + 2)
  have c0 := wv.getD k
  have c1 := wv.getD (k + 1)
  have hwl : val ((U.drop j).take k) < B ^ k := by
    have := val_lt ((h.wU.drop j).take k)
    rwa [show ((U.drop j).take k).length = k by simp; omega] at this
  have hvl' : val (v.take k) < B ^ k := by
    have := val_lt (wv.take k)
    rwa [show (v.take k).length = k by simp; omega] at this
  change val ((U.drop j).take (k + 3)) < _ at w3
  generalize val ((U.drop j).take (k + 3)) = W at *
  generalize U.getD (j + k) 0 = u0 at *
  generalize U.getD (j + k + 1) 0 = u1 at *
  generalize U.getD (j + k + 2) 0 = u2 at *
  generalize v.getD k 0 = v0 at *
  generalize v.getD (k + 1) 0 = v1 at *
  generalize val ((U.drop j).take k) = wl at *
  generalize val (v.take k) = vl at *
  have hP : 0 < B ^ k := Nat.pow_pos (by decide)
  have e1 : B ^ (k + 1) = B * B ^ k := by rw [Nat.pow_succ, Nat.mul_comm]
  have e2 : B ^ (k + 2) = B * (B * B ^ k) := by rw [show k + 2 = k + 1 + 1 from rfl, Nat.pow_succ, e1, Nat.mul_comm]
  have hv1 : 0 < v1 := by
    rcases Nat.eq_zero_or_pos v1 with h | h
    · subst h
      have h1 : B ^ k * (v0 + 1) ≤ B ^ k * B := Nat.mul_le_mul_left _ c0
      rw [Nat.mul_add, Nat.mul_comm _ B, ← e1] at h1
      omega
    · exact h
  have hVlt2 : V < B ^ (k + 1) * (v1 + 1) := by
    have h1 : B ^ k * (v0 + 1) ≤ B ^ k * B := Nat.mul_le_mul_left _ c0
    rw [Nat.mul_add, Nat.mul_comm _ B, ← e1] at h1
    rw [Nat.mul_add]; omega
  have hu2 : u2 ≤ v1 := by
    refine Nat.le_of_lt_succ ?_
    have h1 : B ^ (k + 2) * u2 < V * B := by omega
    have h2 : V * B < B ^ (k + 1) * (v1 + 1) * B := Nat.mul_lt_mul_of_pos_right hVlt2 (by decide)
    rw [show B ^ (k + 1) * (v1 + 1) * B = B ^ (k + 2) * (v1 + 1) by rw [e2, e1]; ac_rfl] at h2
    exact Nat.lt_of_mul_lt_mul_left (Nat.lt_trans h1 h2)
  refine ⟨hu2, hv1, ?_⟩
  refine est_digit (by decide) hP (wl := wl) (vl := vl) ?_ hwl ?_ hvl' ?_ w3
  · rw [hW, e1, e2]
    have a1 : ((u2 * B + u1) * B + u0) * B ^ k = B ^ k * u0 + B * B ^ k * u1 + B * (B * B ^ k) * u2 := by
      rw [Nat.add_mul, Nat.add_mul, Nat.add_mul]
      have x1 : u2 * B * B * B ^ k = B * (B * B ^ k) * u2 := by ac_rfl
      have x2 : u1 * B * B ^ k = B * B ^ k * u1 := by ac_rfl
      rw [x1, x2, Nat.mul_comm u0]; omega
    rw [a1]; omega
  · rw [hVe, e1]
    have a1 : (v1 * B + v0) * B ^ k = B ^ k * v0 + B * B ^ k * v1 := by
      rw [Nat.add_mul]
      have x1 : v1 * B * B ^ k = B * B ^ k * v1 := by ac_rfl
      rw [x1, Nat.mul_comm v0]; omega
    rw [a1]; omega
  · have h1 : 1 * B ≤ v1 * B := Nat.mul_le_mul_right B hv1
    rw [Nat.one_mul] at h1
    exact Nat.le_trans h1 (Nat.le_add_right _ _)
theorem shr_cast (n s : Nat) : ((n : Int) / 2 ^ ((s : Int)).toNat % 4294967296).toNat = n / 2 ^ s % 4294967296 := by
  have h : (n : Int) / 2 ^ ((s : Int)).toNat % 4294967296 = ((n / 2 ^ s % 4294967296 : Nat) : Int) := by
    rw [Int.toNat_natCast]; simp
  rw [h]; rfl
theorem shr_limb {U : List Nat} (hU : WF U) {i s : Nat} (hs : s ≤ 32) (hi : i + 1 < U.length) : (U.getD (i + 1) 0 * 4294967296 + U.getD i 0) / 2 ^ s % 4294967296 = val U / 2 ^ s / B ^ i % B := by
  have h1 : val U = val (U.take i) + B ^ i * ((U.getD i 0 + B * U.getD (i + 1) 0) + B * B * val (U.drop (i + 2))) := by
    rw [val_split U i (by omega), val_drop U (i + 1) hi]
    rw [Nat.mul_add B (U.getD (i + 1) 0), Nat.mul_assoc B B, Nat.add_assoc (U.getD i 0)]
  have h2 : val (U.take i) < B ^ i := by
    have := val_lt (hU.take i)
    rwa [show (U.take i).length = i by simp; omega] at this
  generalize U.getD i 0 = x at *
  generalize U.getD (i + 1) 0 = y at *
  generalize val (U.drop (i + 2)) = z at *
  rw [Nat.div_div_eq_div_mul, Nat.mul_comm (2 ^ s), ← Nat.div_div_eq_div_mul, h1, Nat.add_mul_div_left _ _ (Nat.pow_pos (by decide)), Nat.div_eq_of_lt h2, Nat.zero_add, B_val]
  have h3 : (2 : Nat) ^ s * 2 ^ (32 - s) = 4294967296 := by rw [← Nat.pow_add, show s + (32 - s) = 32 by omega]
  have h4 : x + 4294967296 * y + 4294967296 * 4294967296 * z = y * 4294967296 + x + 2 ^ s * (2 ^ (32 - s) * 4294967296 * z) := by
    rw [← Nat.mul_assoc, ← Nat.mul_assoc, h3]; omega
  rw [h4, Nat.add_mul_div_left _ _ (Nat.pow_pos (by decide)), show 2 ^ (32 - s) * 4294967296 * z = 4294967296 * (2 ^ (32 - s) * z) by ac_rfl, Nat.add_mul_mod_self_left]
end Go.Vw

namespace Go.Proofs.YtejigedigmagdaaGreat
open Go.Vw
attribute [local irreducible] awp awpL awpR

set_option maxHeartbeats 4000000 in
theorem natural_divide (a b : List Nat) (wa : WF a) (wb : WF b) (va : valid a = true) (vb : valid b = true) (hla : a.length < 10000000000) (hb2 : 2 ≤ b.length) (hba : b.length ≤ a.length) : Ret Tryz.prog 182 [u32s a, u32s b] (· = .tup [u32s (limbs (val a / val b)), u32s (limbs (val a % val b))]) := by
  have hbn : b ≠ [] := fun e => by rw [e] at hb2; simp at hb2
  -- the highest limb
  have htop : b.getD (b.length - 1) 0 ≠ 0 := by
    have := vb
    rw [list_snoc hbn, valid_snoc] at this
    simpa using this
  have htB := wb.getD (b.length - 1)
  rw [B_val] at htB
  obtain ⟨t, ht⟩ : ∃ t, b.getD (b.length - 1) 0 = t := ⟨_, rfl⟩
  rw [ht] at htop htB
  have hlz := bits_LeadingZeros32 t htB (by omega)
  obtain ⟨s, hs⟩ : ∃ s, 31 - t.log2 = s := ⟨_, rfl⟩
  rw [hs] at hlz
  have hs32 : s < 32 := by omega
  have hlog : t.log2 < 32 := (Nat.log2_lt htop).2 htB
  have hts : t * 2 ^ s < 4294967296 := by
    have h1 : t < 2 ^ (t.log2 + 1) := (Nat.log2_lt htop).1 (Nat.lt_succ_self _)
    have h2 : t * 2 ^ s < 2 ^ (t.log2 + 1) * 2 ^ s := Nat.mul_lt_mul_of_pos_right h1 (Nat.pow_pos (by decide))
    rw [← Nat.pow_add, show t.log2 + 1 + s = 32 by omega] at h2
    exact h2
  clear hs hlog
  have hp : 0 < 2 ^ s := Nat.pow_pos (by decide)
  -- the two numbers, shifted
  have hvb : val b = val (b.take (b.length - 1)) + B ^ (b.length - 1) * t := by
    have := val_split b (b.length - 1) (by omega)
    rw [ht, show b.length - 1 + 1 = b.length by omega, List.drop_length] at this
    simpa [val] using this
  have hVlt : val b * 2 ^ s < B ^ b.length := by
    have h1 := val_lt (wb.take (b.length - 1))
    rw [List.length_take, Nat.min_eq_left (by omega)] at h1
    have h2 : val b * 2 ^ s < B ^ (b.length - 1) * (t + 1) * 2 ^ s := by
      refine Nat.mul_lt_mul_of_pos_right ?_ hp
      rw [hvb, Nat.mul_add]; omega
    have h3 : (t + 1) * 2 ^ s ≤ B := by
      rw [B_val]
      have hpow : 2 ^ s * 2 ^ (32 - s) = 4294967296 := by rw [← Nat.pow_add, show s + (32 - s) = 32 by omega]
      rw [← hpow, Nat.mul_comm (2 ^ s)] at hts
      rw [← hpow, Nat.mul_comm (2 ^ s)]
      exact Nat.mul_le_mul_right _ (Nat.lt_of_mul_lt_mul_right hts)
    have h4 : B ^ (b.length - 1) * ((t + 1) * 2 ^ s) ≤ B ^ (b.length - 1) * B := Nat.mul_le_mul_left _ h3
    rw [← Nat.pow_succ, show (b.length - 1).succ = b.length by omega, ← Nat.mul_assoc] at h4
    omega
  have hb0 : 0 < val b := by
    rw [hvb]
    have := Nat.mul_pos (Nat.pow_pos (n := b.length - 1) (show 0 < B by decide)) (show 0 < t by omega)
    omega
  have hV0' : 0 < val b * 2 ^ s := Nat.mul_pos hb0 hp
  have hsa := natural_shifted a s wa (by omega) hs32
  have hsb := natural_shifted b s wb (by omega) hs32
  have htr := natural_trimmed (padL (b.length + 1) (val b * 2 ^ s)) (by rw [padL_len]; omega)
  rw [trimL_limbs (padL_wf _ _), padL_val, Nat.mod_eq_of_lt (Nat.lt_of_lt_of_le hVlt (Nat.pow_le_pow_right (by decide) (by omega)))] at htr
  have hsa' : RetB Tryz.prog 201 [.d (u32s a), .d (.int .i64 s)] (lookB []) (.own 500 0 (a.length + 1) 111 1) (lookB [(500, .data 111 1 (eN .u32) 0 (padL (a.length + 1) (val a * 2 ^ s)))]) := hsa.ren [(12, 500)]
  have hsb' : RetB Tryz.prog 201 [.d (u32s b), .d (.int .i64 s)] (lookB []) (.own 501 0 (b.length + 1) 111 1) (lookB [(501, .data 111 1 (eN .u32) 0 (padL (b.length + 1) (val b * 2 ^ s)))]) := hsb.ren [(12, 501)]
  clear hsa hsb
  have hV0l := padL_len (b.length + 1) (val b * 2 ^ s)
  have hU0l := padL_len (a.length + 1) (val a * 2 ^ s)
  have hVge : B ^ (b.length - 1) * (t * 2 ^ s) ≤ val b * 2 ^ s := by
    rw [hvb, Nat.add_mul, Nat.mul_assoc]; omega
  have hvl : (limbs (val b * 2 ^ s)).length = b.length := by
    refine Nat.le_antisymm (length_limbs_le hVlt) ?_
    have h5 := lt_pow_length (val b * 2 ^ s)
    refine Nat.le_of_not_lt fun h => ?_
    have h6 : B ^ (limbs (val b * 2 ^ s)).length ≤ B ^ (b.length - 1) := Nat.pow_le_pow_right (by decide) (by omega)
    have h7 : B ^ (b.length - 1) * 1 ≤ B ^ (b.length - 1) * (t * 2 ^ s) := Nat.mul_le_mul_left _ (Nat.mul_pos (by omega) hp)
    omega
  have hAlt : val a * 2 ^ s < B ^ a.length * 2 ^ s := Nat.mul_lt_mul_of_pos_right (val_lt wa) hp
  have h2s : 2 ^ s ≤ B := by rw [B_val]; exact Nat.pow_le_pow_right (show 0 < 2 by decide) (show s ≤ 32 by omega)
  have hU0v : val (padL (a.length + 1) (val a * 2 ^ s)) = val a * 2 ^ s := by
    rw [padL_val, Nat.mod_eq_of_lt]
    exact Nat.lt_of_lt_of_le hAlt (Nat.mul_le_mul_left _ h2s)
  have hU0w := padL_wf (a.length + 1) (val a * 2 ^ s)
  have hwv := wf_limbs (val b * 2 ^ s)
  have hvv := val_limbs (val b * 2 ^ s)
  have hstart : DivInv (val a * 2 ^ s) (val b * 2 ^ s) b.length (padL (a.length + 1) (val a * 2 ^ s)) (List.replicate (a.length - b.length + 1) 0) (a.length - b.length + 1) := by
    refine ⟨hU0w, wf_replicate _, ?_, ?_⟩
    · rw [List.drop_eq_nil_of_le (by simp), hU0v]; simp [val]
    · have h1 : val (padL (a.length + 1) (val a * 2 ^ s)) = val ((padL (a.length + 1) (val a * 2 ^ s)).take (a.length - b.length + 1)) + B ^ (a.length - b.length + 1) * val ((padL (a.length + 1) (val a * 2 ^ s)).drop (a.length - b.length + 1)) := by
        conv => lhs; rw [← List.take_append_drop (a.length - b.length + 1) (padL _ _), val_append]
        rw [List.length_take, Nat.min_eq_left (by omega)]
      rw [hU0v] at h1
      generalize val ((padL (a.length + 1) (val a * 2 ^ s)).drop (a.length - b.length + 1)) = w at *
      have h2 : B ^ (a.length - b.length + 1) * w < B ^ (a.length - b.length + 1) * (B ^ (b.length - 1) * 2 ^ s) := by
        rw [← Nat.mul_assoc, ← Nat.pow_add, show a.length - b.length + 1 + (b.length - 1) = a.length by omega]
        omega
      have h3 := Nat.lt_of_mul_lt_mul_left h2
      have h4 : B ^ (b.length - 1) * (1 * 2 ^ s) ≤ B ^ (b.length - 1) * (t * 2 ^ s) := Nat.mul_le_mul_left _ (Nat.mul_le_mul_right _ (by omega))
      rw [Nat.one_mul] at h4
      omega
  have hend : ∀ U Q, DivInv (val a * 2 ^ s) (val b * 2 ^ s) b.length U Q 0 → val Q = val a / val b ∧ val U / 2 ^ s = val a % val b ∧ val a % val b < B ^ b.length := fun U Q h => ⟨(h.done hb0).1, (h.done hb0).2, Nat.lt_trans (Nat.mod_lt _ hb0) (val_lt wb)⟩
  have hA : val a * 2 ^ s = val a * 2 ^ s := rfl
  generalize hV0 : padL (b.length + 1) (val b * 2 ^ s) = V0 at *
  generalize hU0 : padL (a.length + 1) (val a * 2 ^ s) = U0 at *
  generalize hv : limbs (val b * 2 ^ s) = v at *
  rw [← ht, show b.length - 1 = ((b.length : Int) - 1).toNat by omega] at hlz
  generalize hVV : val b * 2 ^ s = V at *
  generalize hAA : val a * 2 ^ s = A at *
  refine ret_of_awp tab Tryz.func182 rfl rfl (Nat.le_of_ble_eq_true rfl) (fun w0 F0 => ?_)
  repeat' (first | refine wG ?_ | refine wD [500] hsa' ?_ | refine wD [501] hsb' ?_ | refine wC hlz ?_ | refine wC htr ?_ | refine rg 7 30 ?_ | refine rg 16 18 ?_ | refine wS ?_ ?_ <;> intro _ | refine finG ?_)
  have hm : ((a.length : Int) - b.length + 1).toNat = a.length - b.length + 1 := by omega
  rw [hm]
  obtain ⟨m, hmm⟩ : ∃ m, a.length - b.length + 1 = m := ⟨_, rfl⟩
  rw [hmm] at hstart hm ⊢
  generalize b.length = n at *
  obtain ⟨k, rfl⟩ : ∃ k, n = k + 2 := ⟨n - 2, by omega⟩
  change B ^ (k + 1) * _ ≤ _ at hVge
  have hstart0 := hstart
  clear hstart
  have hstart := Hid.mk hstart0
  have hend0 := hend
  clear hend
  have hend := Hid.mk hend0
  clear hend0
  have hVge' : B ^ (k + 1) ≤ V := by
    have : B ^ (k + 1) * 1 ≤ B ^ (k + 1) * (t * 2 ^ s) := Nat.mul_le_mul_left _ (Nat.mul_pos (by omega) hp)
    omega
  clear hstart0 hlz hb2 htB htop hts hvb hp hV0l hVlt hVge hAlt hU0v h2s hm hV0 hU0 ht hv hsa' hsb' htr hA hVV hAA hb0
  refine awp_loop3 (fun (jj : Nat) (U Q : List Nat) => ([(4, .own 34 0 m 111 1), (6, .d (.int .i64 s)), (7, .d (.int .i64 (k + 2 : Nat))), (8, .own 500 0 (a.length + 1) 111 1), (9, .d (u32s v)), (10, .d (.int .i64 ((jj : Int) - 1)))], [(500, .data 111 1 (eN .u32) 0 U), (34, .data 111 1 (eN .u32) 0 Q)])) (fun jj U Q => U.length = a.length + 1 ∧ Q.length = m ∧ jj ≤ m ∧ DivInv A V (k + 2) U Q jj) (fun jj U Q => jj) m U0 (List.replicate m 0) ⟨hU0l, by simp, Nat.le_refl _, hstart.out⟩ ⟨rfl, rfl, rfl, rfl, rfl, rfl, rfl⟩ ⟨rfl, rfl, trivial⟩ (fun jj U Q h => ?_)
  obtain ⟨i1, i2, i3, i4⟩ := h
  clear hstart hU0l hU0w U0 V0
  by_cases hj0 : jj = 0
  · subst hj0
    obtain ⟨e1, e2, e3⟩ := hend.out U Q i4
    have wQ := i4.wQ
    have wU := i4.wU
    have htq := natural_trimmed Q (by omega)
    rw [trimL_limbs wQ, e1] at htq
    have kq := Hid.mk (And.intro e2 e3)
    clear e1 e2 e3 i4 hvl hwv hVge' hV0' hvv
    repeat' (first | refine wG ?_ | refine rg 7 30 ?_ | refine rg 16 18 ?_ | refine wS ?_ ?_ <;> intro _ | refine finG ?_)
    refine awp_loop2 (fun (i : Nat) (R : List Nat) => ([(4, .own 34 0 m 111 1), (5, .own 100 0 (k + 2) 111 1), (6, .d (.int .i64 s)), (8, .own 500 0 (a.length + 1) 111 1), (102, .d (.int .i64 (k + 2 : Nat))), (103, .d (.int .i64 i))], [(500, .data 111 1 (eN .u32) 0 U), (34, .data 111 1 (eN .u32) 0 Q), (100, .data 111 1 (eN .u32) 0 R)])) (fun i R => R.length = k + 2 ∧ i ≤ k + 2 ∧ WF R ∧ val (R.take i) = val U / 2 ^ s % B ^ i) (fun i R => k + 2 - i) 0 (List.replicate (k + 2) 0) ⟨by simp, by omega, wf_replicate _, by simp [Nat.mod_one, val]⟩ ⟨rfl, rfl, rfl, rfl, rfl, rfl, rfl⟩ ⟨rfl, rfl, rfl, trivial⟩ (fun i R h => ?_)
    obtain ⟨j1, j2, j3, j4⟩ := h
    by_cases hin : i < k + 2
    · have hs := shr_limb wU (show s ≤ 32 by omega) (show i + 1 < U.length by omega)
      have kp := Hid.mk (And.intro j4 hs)
      have go := wU.getD i
      have gp := wU.getD (i + 1)
      rw [B_val] at go gp
      clear j4 hs
      repeat' (first | refine wG ?_ | refine rg 7 30 ?_ | refine rg 16 18 ?_ | refine wS ?_ ?_ <;> intro _ | refine finG ?_)
      have hor := or_word (a := U.getD (i + 1) 0) go
      have hlb : val U / 2 ^ s / B ^ i % B < B := Nat.mod_lt _ (by decide)
      refine ⟨i + 1, R.set i (val U / 2 ^ s / B ^ i % B), ⟨by simpa using j1, by omega, j3.set _ hlb, ?_⟩, by omega, ⟨rfl, rfl, rfl, rfl, rfl, iv (by omega), rfl⟩, rfl, rfl, blkEq ?_, trivial⟩
      · rw [val_take_set _ _ _ (by omega), kp.out.1, Nat.pow_succ, Nat.mod_mul]
      · rw [hor, shr_cast, kp.out.2]
    · have : i = k + 2 := by omega
      subst this
      rw [List.take_of_length_le (by omega), kq.out.1, Nat.mod_eq_of_lt kq.out.2] at j4
      have htr := natural_trimmed R (by omega)
      rw [trimL_limbs j3, j4] at htr
      repeat' (first | refine wG ?_ | refine wC htq ?_ | refine wC htr ?_ | refine rg 7 30 ?_ | refine rg 16 18 ?_ | refine wS ?_ ?_ <;> intro _ | refine finG ?_)
      rfl
  · obtain ⟨j, rfl⟩ : ∃ j, jj = j + 1 := ⟨jj - 1, by omega⟩
    obtain ⟨g1, g2, g3, g4⟩ := i4.guess hvv hwv hvl hVge' (by omega)
    obtain ⟨x, hx⟩ : ∃ x, est B ((U.getD (j + k + 2) 0 * B + U.getD (j + k + 1) 0) * B + U.getD (j + k) 0) (v.getD (k + 1) 0 * B + v.getD k 0) = x := ⟨_, rfl⟩
    have hxB : x < 4294967296 := by rw [← hx]; exact est_lt (by decide) _ _
    rw [hx] at g3 g4
    have e2 : j + k + 2 = ((((j + 1 : Nat) : Int) - 1) + (k + 2 : Nat)).toNat := by omega
    have e1 : j + k + 1 = ((((j + 1 : Nat) : Int) - 1) + (k + 2 : Nat) - 1).toNat := by omega
    have e0 : j + k = ((((j + 1 : Nat) : Int) - 1) + (k + 2 : Nat) - 2).toNat := by omega
    have f1 : k + 1 = (((k + 2 : Nat) : Int) - 1).toNat := by omega
    have f0 : k = (((k + 2 : Nat) : Int) - 2).toNat := by omega
    have gg : Ret Tryz.prog 202 [.int .u32 (U.getD ((((j + 1 : Nat) : Int) - 1) + (k + 2 : Nat)).toNat 0), .int .u32 (U.getD ((((j + 1 : Nat) : Int) - 1) + (k + 2 : Nat) - 1).toNat 0), .int .u32 (U.getD ((((j + 1 : Nat) : Int) - 1) + (k + 2 : Nat) - 2).toNat 0), .int .u32 (v.getD (((k + 2 : Nat) : Int) - 1).toNat 0), .int .u32 (v.getD (((k + 2 : Nat) : Int) - 2).toNat 0)] (· = .int .u64 x) := by
      rw [← e2, ← e1, ← e0, ← f1, ← f0]
      exact natural_guess _ _ _ _ _ _ _ rfl hx.symm g1 (i4.wU.getD (j + k + 1)) (i4.wU.getD (j + k)) (hwv.getD (k + 1)) (hwv.getD k) g2
    have hVlt : V < B ^ (k + 2) := by have := val_lt hwv; rwa [hvv, hvl] at this
    have hVlt3 : V < B ^ (k + 3) := Nat.lt_of_lt_of_le hVlt (Nat.pow_le_pow_right (by decide) (by omega))
    have hstep := i4.step hVlt hV0' (show j + (k + 2) + 1 ≤ U.length by omega) (show j < Q.length by omega)
    change _ < _ ∧ val ((U.drop j).take (k + 3)) / V < B ∧ DivInv A V (k + 2) (mid U j (padL (k + 3) (val ((U.drop j).take (k + 3)) % V))) (Q.set j (val ((U.drop j).take (k + 3)) / V)) j at hstep
    obtain ⟨s1, s2, s3⟩ := hstep
    have hred := natural_reduce U v j (k + 3) x i4.wU hwv (by omega) (by omega) (by omega) hxB
    have hdig := digit_done (W := val ((U.drop j).take (k + 3))) (V := V) (g := x) (L := k + 3) hV0' (one_of g3 g4) hVlt3
    have hmv := fun y => mid_win (U := U) (w := padL (k + 3) y) (j := j) (by omega)
    have hmm2 := fun y z => mid_mid (U := U) (w := padL (k + 3) y) (x := padL (k + 3) z) (j := j) (by rw [padL_len]; omega) (by rw [padL_len, padL_len])
    have hml := fun y => mid_len (U := U) (w := padL (k + 3) y) (j := j) (by rw [padL_len]; omega)
    have hmw := fun y => mid_wf (j := j) i4.wU (padL_wf (k + 3) y)
    have hres := fun y => natural_restore (mid U j (padL (k + 3) y)) v j (k + 3) (hmw y) hwv (by rw [hml]; omega) (by rw [hml]; omega) (by omega)
    simp only [padL_len] at hmv
    rw [hvv] at hred
    simp only [hmv, hmm2, hvv, padL_val] at hres
    clear hmv hmm2 hmw
    have p0 : j = plus0 0 (((j + 1 : Nat) : Int) - 1).toNat := by rw [plus0_eq]; omega
    have p1 : k + 3 = ((((j + 1 : Nat) : Int) - 1) + (k + 2 : Nat) + 1).toNat - (((j + 1 : Nat) : Int) - 1).toNat := by omega
    generalize hW : val ((U.drop j).take (k + 3)) = W at *
    by_cases hlt : W < x * V
    · simp only [if_pos hlt, decide_eq_true hlt] at hred hdig
      have hres := hres (W + B ^ (k + 3) - x * V)
      have hWl : W < B ^ (k + 3) := by
        have := val_lt ((i4.wU.drop j).take (k + 3))
        rwa [show ((U.drop j).take (k + 3)).length = k + 3 by simp; omega, hW] at this
      rw [Nat.mod_eq_of_lt (show W + B ^ (k + 3) - x * V < B ^ (k + 3) by omega), hdig.1] at hres
      have hred : RetB Tryz.prog 203 [.own 500 (plus0 0 (((j + 1 : Nat) : Int) - 1).toNat) (((((j + 1 : Nat) : Int) - 1) + (k + 2 : Nat) + 1).toNat - (((j + 1 : Nat) : Int) - 1).toNat) 111 1, .d (u32s v), .d (.int .u64 x)] (lookB [(500, .data 111 1 (eN .u32) 0 U)]) (.d (.bool true)) (lookB [(500, .data 111 1 (eN .u32) 0 (mid U j (padL (k + 3) (W + B ^ (k + 3) - x * V))))]) := by
        rw [← p1, ← p0]; exact hred.ren [(1000, 500)]
      have hres : RetB Tryz.prog 204 [.own 500 (plus0 0 (((j + 1 : Nat) : Int) - 1).toNat) (((((j + 1 : Nat) : Int) - 1) + (k + 2 : Nat) + 1).toNat - (((j + 1 : Nat) : Int) - 1).toNat) 111 1, .d (u32s v)] (lookB [(500, .data 111 1 (eN .u32) 0 (mid U j (padL (k + 3) (W + B ^ (k + 3) - x * V))))]) (.tup []) (lookB [(500, .data 111 1 (eN .u32) 0 (mid U j (padL (k + 3) (W % V))))]) := by
        rw [← p1, ← p0]; exact hres.ren [(1000, 500)]
      have hml1 := hml (W + B ^ (k + 3) - x * V)
      have hml2 := hml (W % V)
      have hx0 : 0 < x := by rcases Nat.eq_zero_or_pos x with h | h; (· subst h; simp at hlt); exact h
      have kp := Hid.mk (And.intro s2 hdig.2)
      have kq := Hid.mk hVge'
      clear hdig s1 s2 hWl hlt hVlt hVlt3 g1 g2 g3 g4 hVge' hV0' hx e2 e1 e0 f1 f0 hvv p0 p1 hml
      repeat' (first | refine wG ?_ | refine wD [600] hred ?_ | refine wD [600] hres ?_ | refine wC gg ?_ | refine rg 7 30 ?_ | refine rg 16 18 ?_ | refine wS ?_ ?_ <;> intro _ | refine finG ?_)
      refine ⟨j, mid U j (padL (k + 3) (W % V)), Q.set j (W / V), ⟨by rw [hml2]; exact i1, by simpa using i2, by omega, s3⟩, by omega, ⟨rfl, rfl, rfl, rfl, rfl, iv (by omega), rfl⟩, rfl, blkEq ?_, trivial⟩
      rw [show (((j + 1 : Nat) : Int) - 1).toNat = j by omega, ← kp.out.2, show ((x : Int) - 1).toNat = x - 1 by omega]
    · simp only [if_neg hlt, decide_eq_false hlt] at hred hdig
      rw [hdig.1] at hred
      have hred : RetB Tryz.prog 203 [.own 500 (plus0 0 (((j + 1 : Nat) : Int) - 1).toNat) (((((j + 1 : Nat) : Int) - 1) + (k + 2 : Nat) + 1).toNat - (((j + 1 : Nat) : Int) - 1).toNat) 111 1, .d (u32s v), .d (.int .u64 x)] (lookB [(500, .data 111 1 (eN .u32) 0 U)]) (.d (.bool false)) (lookB [(500, .data 111 1 (eN .u32) 0 (mid U j (padL (k + 3) (W % V))))]) := by
        rw [← p1, ← p0]; exact hred.ren [(1000, 500)]
      have hml2 := hml (W % V)
      have kp := Hid.mk (And.intro s2 hdig.2)
      have kq := Hid.mk hVge'
      clear hdig s1 s2 hlt hVlt hVlt3 g1 g2 g3 g4 hVge' hV0' hx e2 e1 e0 f1 f0 hvv p0 p1 hml
      repeat' (first | refine wG ?_ | refine wD [600] hred ?_ | refine wC gg ?_ | refine rg 7 30 ?_ | refine rg 16 18 ?_ | refine wS ?_ ?_ <;> intro _ | refine finG ?_)
      refine ⟨j, mid U j (padL (k + 3) (W % V)), Q.set j (W / V), ⟨by rw [hml2]; exact i1, by simpa using i2, by omega, s3⟩, by omega, ⟨rfl, rfl, rfl, rfl, rfl, iv (by omega), rfl⟩, rfl, blkEq ?_, trivial⟩
      rw [show (((j + 1 : Nat) : Int) - 1).toNat = j by omega, kp.out.2]
end Go.Proofs.YtejigedigmagdaaGreat

/-
  Square roots of whole numbers by Newton's iteration; powers of 2 as lists of limbs. Conditions: as each says.
-/
namespace Go.Vw
def rtGo : Nat → Nat → Nat
  | 0, _ => 0
  | k + 1, a => if (k + 1) * (k + 1) ≤ a then k + 1 else rtGo k a
def rt (a : Nat) : Nat := rtGo a a
end Go.Vw

set_option maxHeartbeats 8000000
namespace Go.Proofs.YtejigedigmagdaaGreat
open Go.Vw
attribute [local irreducible] awp awpL awpR

theorem natural_CompareN (m n : Nat) (hm : (limbs m).length < 10000000000) (hn : (limbs n).length < 10000000000) : Ret Tryz.prog 145 [u32s (limbs m), u32s (limbs n)] (· = .int .i64 (cmpN m n)) := by
  have := natural_Compare _ _ (wf_limbs m) (wf_limbs n) hm hn
  rw [nv_limbs, nv_limbs] at this
  exact this
theorem natural_AddN (m n : Nat) (hm : (limbs m).length < 1000000000000) (hn : (limbs n).length < 1000000000000) : Ret Tryz.prog 140 [u32s (limbs m), u32s (limbs n)] (· = u32s (limbs (m + n))) := by
  have := natural_Add _ _ (wf_limbs m) (wf_limbs n) hm hn
  rw [nv_limbs, nv_limbs] at this
  exact this
theorem natural_SubN (m n : Nat) (hm : (limbs m).length < 10000000000) (hn : (limbs n).length < 10000000000) : Ret Tryz.prog 142 [u32s (limbs m), u32s (limbs n)] (· = .tup [u32s (limbs (m - n)), .bool (decide (n ≤ m))]) := by
  have := natural_Sub _ _ (wf_limbs m) (wf_limbs n) hm hn
  rw [nv_limbs, nv_limbs] at this
  by_cases h : m < n
  · rw [if_pos h] at this
    rw [show m - n = 0 by omega, limbs_zero, decide_eq_false (by omega)]
    exact this
  · rw [if_neg h] at this
    rw [decide_eq_true (by omega)]
    exact this
theorem natural_MulN (m n : Nat) (hm : (limbs m).length < 10000000000) (hn : (limbs n).length < 10000000000) : Ret Tryz.prog 95 [u32s (limbs m), u32s (limbs n)] (· = u32s (limbs (m * n))) := by
  have := natural_Mul _ _ (wf_limbs m) (wf_limbs n) hm hn
  rw [nv_limbs, nv_limbs] at this
  exact this
theorem natural_valueN (n : Nat) (h : (limbs n).length < 1000000000000) : Ret Tryz.prog 146 [u32s (limbs n)] (· = u32s (limbs n)) := by
  have := natural_value (limbs n) (by omega)
  rw [takeL_of] at this
  exact this
theorem natural_UintN (n : Nat) (h : (limbs n).length < 1000000000) : Ret Tryz.prog 178 [u32s (limbs n)] (· = if n < 18446744073709551616 then .tup [.int .u64 n, .bool true] else .tup [.int .u64 0, .bool false]) := by
  have := natural_Uint (limbs n) (wf_limbs n) (by omega)
  rw [nv_limbs] at this
  exact this
theorem natural_shortN (m d : Nat) (hm : (limbs m).length < 1000000000) (hd : 0 < d) (hdB : d < 4294967296) : Ret Tryz.prog 181 [u32s (limbs m), .int .u32 d] (· = .tup [u32s (limbs (m / d)), .int .u32 (m % d : Nat)]) := by
  have := natural_short (limbs m) d (wf_limbs m) (by omega) hd hdB
  rw [val_limbs] at this
  exact this
theorem natural_DivN (m n : Nat) (hm : (limbs m).length < 1000000000) (hn : (limbs n).length < 1000000000) (h0 : n ≠ 0) : Ret Tryz.prog 144 [u32s (limbs m), u32s (limbs n)] (· = .tup [u32s (limbs (m / n)), u32s (limbs (m % n)), .bool true]) := by
  have hl : 0 < (limbs n).length := List.length_pos_iff.2 (mt limbs_eq_nil.1 h0)
  have h1 := natural_valueN m (by omega)
  have h2 := natural_valueN n (by omega)
  have hc := natural_CompareN m n (by omega) (by omega)
  have hcn := cmpN_neg m n
  by_cases hlt : m < n
  · have hcl := slices_Clone (limbs m) (by omega)
    rw [Nat.div_eq_of_lt hlt, Nat.mod_eq_of_lt hlt, limbs_zero]
    refine ret_of_awp tab Tryz.func144 rfl rfl (Nat.le_of_ble_eq_true rfl) (fun w0 F0 => ?_)
    repeat' (first | refine wG ?_ | refine wC h1 ?_ | refine wC h2 ?_ | refine wC hc ?_ | refine wC hcl ?_ | refine wS ?_ ?_ <;> intro _ | refine finTG ?_)
    exact leT
  · by_cases h1l : (limbs n).length = 1
    · have hnB := lt_pow_length n
      rw [h1l, Nat.pow_one, B_val] at hnB
      have hn1 := limbs_small (by rw [B_val]; exact hnB) h0
      have hs := natural_shortN m n hm (by omega) hnB
      have hmb : m % n < 4294967296 := Nat.lt_trans (Nat.mod_lt m (by omega)) hnB
      have hf := natural_FromUint (m % n : Nat) (m % n) rfl (by omega)
      rw [hn1] at h2 hc h1l ⊢
      refine ret_of_awp tab Tryz.func144 rfl rfl (Nat.le_of_ble_eq_true rfl) (fun w0 F0 => ?_)
      repeat' (first | refine wG ?_ | refine wC h1 ?_ | refine wC h2 ?_ | refine wC hc ?_ | refine wC hs ?_ | refine wC hf ?_ | refine wS ?_ ?_ <;> intro _ | refine finTG ?_)
      exact leT
    · have hle := limbs_len_mono (show n ≤ m by omega)
      have hd := natural_divide (limbs m) (limbs n) (wf_limbs m) (wf_limbs n) (valid_limbs m) (valid_limbs n) (by omega) (by omega) hle
      rw [val_limbs, val_limbs] at hd
      refine ret_of_awp tab Tryz.func144 rfl rfl (Nat.le_of_ble_eq_true rfl) (fun w0 F0 => ?_)
      repeat' (first | refine wG ?_ | refine wC h1 ?_ | refine wC h2 ?_ | refine wC hc ?_ | refine wC hd ?_ | refine wS ?_ ?_ <;> intro _ | refine finTG ?_)
      exact leT
theorem natural_GcdN (m n : Nat) (hm : (limbs m).length < 100000000) (hn : (limbs n).length < 100000000) : Ret Tryz.prog 143 [u32s (limbs m), u32s (limbs n)] (· = u32s (limbs (Nat.gcd m n))) := by
  have h1 := natural_valueN m (by omega)
  have h2 := natural_valueN n (by omega)
  refine ret_of_awp tab Tryz.func143 rfl rfl (Nat.le_of_ble_eq_true rfl) (fun w0 F0 => ?_)
  repeat' (first | refine wG ?_ | refine wC h1 ?_ | refine wC h2 ?_ | refine wS ?_ ?_ <;> intro _ | refine finG ?_)
  refine awp_loop2 (fun (x y : Nat) => ([(0, .d (u32s (limbs x))), (1, .d (u32s (limbs y)))], [])) (fun x y => (limbs x).length < 100000000 ∧ (limbs y).length < 100000000 ∧ Nat.gcd x y = Nat.gcd m n) (fun x y => y) m n ⟨by omega, by omega, rfl⟩ ⟨rfl, rfl, rfl⟩ trivial (fun x y hi => ?_)
  obtain ⟨h1, h2, h3⟩ := hi
  by_cases h0 : y = 0
  · subst h0
    have e : (limbs 0).length = 0 := by rw [limbs_zero]; rfl
    have hcl := slices_Clone (limbs x) (by omega)
    repeat' (first | refine wG ?_ | refine wC hcl ?_ | refine wS ?_ ?_ <;> intro _ | refine finG ?_)
    rw [← h3, Nat.gcd_zero_right]
  · have e : 0 < (limbs y).length := List.length_pos_iff.2 (mt limbs_eq_nil.1 h0)
    have hr := Nat.mod_lt x (Nat.pos_of_ne_zero h0)
    have hu := natural_UintN x (by omega)
    have hv := natural_UintN y (by omega)
    have hd := natural_DivN x y (by omega) (by omega) h0
    have fin : ∃ p q, ((limbs p).length < 100000000 ∧ (limbs q).length < 100000000 ∧ Nat.gcd p q = Nat.gcd m n) ∧ q < y ∧ p = y ∧ q = x % y := ⟨y, x % y, ⟨h2, len_bound (Nat.le_of_lt hr) h2, by rw [← h3, Nat.gcd_comm y, ← Nat.gcd_rec, Nat.gcd_comm]⟩, hr, rfl, rfl⟩
    by_cases hx : x < 18446744073709551616
    · rw [if_pos hx] at hu
      by_cases hy : y < 18446744073709551616
      · rw [if_pos hy] at hv
        have hg := natural_gcd x y hx hy
        have hgl : Nat.gcd x y < 18446744073709551616 := Nat.lt_of_le_of_lt (Nat.gcd_le_right x (by omega)) hy
        have hf := natural_FromUint (Nat.gcd x y : Nat) (Nat.gcd x y) rfl hgl
        repeat' (first | refine wG ?_ | refine wC hu ?_ | refine wC hv ?_ | refine wC hg ?_ | refine wC hf ?_ | refine wS ?_ ?_ <;> intro _ | refine finG ?_)
        rw [h3]
      · rw [if_neg hy] at hv
        repeat' (first | refine wG ?_ | refine wC hu ?_ | refine wC hv ?_ | refine wC hd ?_ | refine wS ?_ ?_ <;> intro _ | refine finG ?_)
        exact ⟨y, x % y, ⟨h2, len_bound (Nat.le_of_lt hr) h2, by rw [← h3, Nat.gcd_comm y, ← Nat.gcd_rec, Nat.gcd_comm]⟩, hr, ⟨rfl, rfl, rfl⟩, trivial⟩
    · rw [if_neg hx] at hu
      by_cases hy : y < 18446744073709551616
      · rw [if_pos hy] at hv
        repeat' (first | refine wG ?_ | refine wC hu ?_ | refine wC hv ?_ | refine wC hd ?_ | refine wS ?_ ?_ <;> intro _ | refine finG ?_)
        exact ⟨y, x % y, ⟨h2, len_bound (Nat.le_of_lt hr) h2, by rw [← h3, Nat.gcd_comm y, ← Nat.gcd_rec, Nat.gcd_comm]⟩, hr, ⟨rfl, rfl, rfl⟩, trivial⟩
      · rw [if_neg hy] at hv
        repeat' (first | refine wG ?_ | refine wC hu ?_ | refine wC hv ?_ | refine wC hd ?_ | refine wS ?_ ?_ <;> intro _ | refine finG ?_)
        exact ⟨y, x % y, ⟨h2, len_bound (Nat.le_of_lt hr) h2, by rw [← h3, Nat.gcd_comm y, ← Nat.gcd_rec, Nat.gcd_comm]⟩, hr, ⟨rfl, rfl, rfl⟩, trivial⟩
end Go.Proofs.YtejigedigmagdaaGreat

set_option maxHeartbeats 8000000
namespace Go.Proofs.YtejigedigmagdaaGreat
open Go.Vw
attribute [local irreducible] awp awpL awpR

end Go.Proofs.YtejigedigmagdaaGreat

set_option maxHeartbeats 8000000
namespace Go.Proofs.YtejigedigmagdaaGreat
open Go.Vw
attribute [local irreducible] awp awpL awpR

theorem integer_Valid (neg : Bool) (mag : List Nat) (hl : mag.length < 10000000000000) : Ret Tryz.prog 173 [intC neg mag] (· = .bool (validI neg mag)) := by
  have hv := natural_Valid mag hl
  unfold validI
  generalize valid mag = v at *
  cases v <;> cases neg
  · refine ret_of_awp tab Tryz.func173 rfl rfl (Nat.le_of_ble_eq_true rfl) (fun w0 F0 => ?_)
    repeat' (first | refine wG ?_ | refine wC hv ?_ | refine wS ?_ ?_ <;> intro _ | refine finG ?_)
    rfl
  · refine ret_of_awp tab Tryz.func173 rfl rfl (Nat.le_of_ble_eq_true rfl) (fun w0 F0 => ?_)
    repeat' (first | refine wG ?_ | refine wC hv ?_ | refine wS ?_ ?_ <;> intro _ | refine finG ?_)
    rfl
  · refine ret_of_awp tab Tryz.func173 rfl rfl (Nat.le_of_ble_eq_true rfl) (fun w0 F0 => ?_)
    repeat' (first | refine wG ?_ | refine wC hv ?_ | refine wS ?_ ?_ <;> intro _ | refine finG ?_)
    all_goals simp
  · refine ret_of_awp tab Tryz.func173 rfl rfl (Nat.le_of_ble_eq_true rfl) (fun w0 F0 => ?_)
    repeat' (first | refine wG ?_ | refine wC hv ?_ | refine wS ?_ ?_ <;> intro _ | refine finG ?_)
    · rename_i h
      simp
      intro e; subst e; simp at h
    · rename_i h
      simp
      exact List.length_eq_zero_iff.1 (show mag.length = 0 by omega)
theorem integer_value (neg : Bool) (mag : List Nat) (wm : WF mag) (hl : mag.length < 1000000000000) : Ret Tryz.prog 135 [intC neg mag] (· = zD (iv' neg mag)) := by
  have hv := integer_Valid neg mag (by omega)
  cases h : validI neg mag with
  | false =>
    rw [h] at hv
    rw [show iv' neg mag = 0 from by simp [iv', h]]
    refine ret_of_awp tab Tryz.func135 rfl rfl (Nat.le_of_ble_eq_true rfl) (fun w0 F0 => ?_)
    rw [zD_zero]
    repeat' (first | refine wG ?_ | refine wC hv ?_ | refine wS ?_ ?_ <;> intro _ | (show retPost _ _ _ _ _; first | refine finF true rfl rfl sc ?_ | refine finF false rfl rfl sc ?_ | refine finC false rfl rfl sc sc ?_ | refine finN rfl rfl sc ?_ | refine finL true rfl rfl sc rfl (LeR.cons rfl leL LeR.nil) ?_ | refine finA true rfl rfl sc ?_ | refine finA false rfl rfl sc ?_ | refine finE true rfl rfl sc ?_ | refine finE false rfl rfl sc ?_))
    exact leL
  | true =>
    rw [h] at hv
    rw [← intC_valid wm h]
    refine ret_of_awp tab Tryz.func135 rfl rfl (Nat.le_of_ble_eq_true rfl) (fun w0 F0 => ?_)
    repeat' (first | refine wG ?_ | refine wC hv ?_ | refine wS ?_ ?_ <;> intro _ | refine finG ?_)
    rfl
theorem integer_valueZ (z : Int) (hl : (limbs z.natAbs).length < 1000000000000) : Ret Tryz.prog 135 [zD z] (· = zD z) := by
  have := integer_value (decide (z < 0)) (limbs z.natAbs) (wf_limbs _) hl
  rw [iv'_z] at this
  exact this
theorem integer_SignZ (z : Int) (hl : (limbs z.natAbs).length < 1000000000000) : Ret Tryz.prog 85 [zD z] (· = .int .i64 z.sign) := by
  have ht := integer_valueZ z hl
  obtain ⟨s, n, e1, e2, e3, e4⟩ := zD_cases z
  rw [e1] at ht
  have hn0 : (limbs n).length = 0 ↔ n = 0 := ⟨fun h => limbs_eq_nil.1 (List.length_eq_zero_iff.1 h), fun h => by rw [h, limbs_zero]; rfl⟩
  rw [e1] at *
  cases s with
  | true =>
    have h0 := e4 rfl
    have : z.sign = -1 := Int.sign_eq_neg_one_of_neg (by simp at e2; omega)
    rw [this]
    refine ret_of_awp tab Tryz.func85 rfl rfl (Nat.le_of_ble_eq_true rfl) (fun w0 F0 => ?_)
    repeat' (first | refine wG ?_ | refine wC ht ?_ | refine wS ?_ ?_ <;> intro _ | refine finG ?_)
    rfl
  | false =>
    simp at e2
    refine ret_of_awp tab Tryz.func85 rfl rfl (Nat.le_of_ble_eq_true rfl) (fun w0 F0 => ?_)
    repeat' (first | refine wG ?_ | refine wC ht ?_ | refine wS ?_ ?_ <;> intro _ | refine finG ?_)
    · rename_i hp
      have : n = 0 := by omega
      subst this
      rw [e2]; rfl
    · rename_i hp
      have : z.sign = 1 := Int.sign_eq_one_of_pos (by omega)
      rw [this]
theorem integer_copiedZ (z : Int) (hl : (limbs z.natAbs).length < 100000000000) : Ret Tryz.prog 175 [zD z] (· = zD z) := by
  obtain ⟨s, n, e1, e2, e3, e4⟩ := zD_cases z
  rw [e3] at hl
  have ha := natural_AddN n 0 (by omega) (by rw [limbs_zero]; simp)
  rw [limbs_zero, Nat.add_zero] at ha
  have hs := integer_signed s n (by omega)
  rw [← e2] at hs
  rw [e1] at hs ⊢
  refine ret_of_awp tab Tryz.func175 rfl rfl (Nat.le_of_ble_eq_true rfl) (fun w0 F0 => ?_)
  repeat' (first | refine wG ?_ | refine wC ha ?_ | refine wC hs ?_ | refine rg 1 5 ?_ | refine wS ?_ ?_ <;> intro _ | refine finG ?_)
  rfl
theorem integer_NegZ (z : Int) (hl : (limbs z.natAbs).length < 100000000000) : Ret Tryz.prog 138 [zD z] (· = zD (-z)) := by
  have ht := integer_valueZ z (by omega)
  have hc := integer_copiedZ z hl
  obtain ⟨s, n, e1, e2, e3, e4⟩ := zD_cases z
  rw [e1] at ht hc
  rw [e3] at hl
  have hs := integer_signed (!s) n (by omega)
  have : (if (!s) = true then -(n : Int) else n) = -z := by cases s <;> simp at e2 ⊢ <;> omega
  rw [this] at hs
  rw [e1]
  cases s with
  | true =>
    refine ret_of_awp tab Tryz.func138 rfl rfl (Nat.le_of_ble_eq_true rfl) (fun w0 F0 => ?_)
    repeat' (first | refine wG ?_ | refine wC ht ?_ | refine wC hc ?_ | refine wC hs ?_ | refine wS ?_ ?_ <;> intro _ | refine finG ?_)
    rfl
  | false =>
    refine ret_of_awp tab Tryz.func138 rfl rfl (Nat.le_of_ble_eq_true rfl) (fun w0 F0 => ?_)
    repeat' (first | refine wG ?_ | refine wC ht ?_ | refine wC hc ?_ | refine wC hs ?_ | refine wS ?_ ?_ <;> intro _ | refine finG ?_)
    rfl
theorem integer_AddZ (x y : Int) (h : (limbs x.natAbs).length < 1000000000) (k : (limbs y.natAbs).length < 1000000000) : Ret Tryz.prog 93 [zD x, zD y] (· = zD (x + y)) := by
  have ta := integer_valueZ x (by omega)
  have tb := integer_valueZ y (by omega)
  obtain ⟨s, a, e1, e2, e3, e4⟩ := zD_cases x
  obtain ⟨t, b, f1, f2, f3, f4⟩ := zD_cases y
  rw [e1] at ta
  rw [f1] at tb
  rw [e3] at h
  rw [f3] at k
  have ladd := ln_add a b
  have ls := len_bound (Nat.sub_le a b) h
  have ls' := len_bound (Nat.sub_le b a) k
  simp only [ln] at ladd
  rw [e1, f1]
  cases s <;> cases t
  · refine ret_of_awp tab Tryz.func93 rfl rfl (Nat.le_of_ble_eq_true rfl) (fun w0 F0 => ?_)
    repeat' (first | refine wG ?_ | refine wC ta ?_ | refine wC tb ?_ | refine cl 142 tt rfl rfl rfl (hr := natural_SubN _ _ (by omega) (by omega)) (k := ?_) | refine clR 142 tt rfl rfl rfl (hr := natural_SubN _ _ (by omega) (by omega)) (k := ?_) | refine cl 141 tt rfl rfl rfl (hr := integer_signed _ _ (by omega)) (k := ?_) | refine clR 141 tt rfl rfl rfl (hr := integer_signed _ _ (by omega)) (k := ?_) | refine cl 140 tt rfl rfl rfl (hr := natural_AddN _ _ (by omega) (by omega)) (k := ?_) | refine clR 140 tt rfl rfl rfl (hr := natural_AddN _ _ (by omega) (by omega)) (k := ?_) | refine cl 141 tt rfl rfl rfl (hr := integer_signed false _ (by omega)) (k := ?_) | refine clR 141 tt rfl rfl rfl (hr := integer_signed false _ (by omega)) (k := ?_) | refine rg 1 3 ?_ | refine rg 3 7 ?_ | refine wS ?_ ?_ <;> intro _ | refine finG ?_)
    refine congrArg zD ?_
    rw [e2, f2]; simp only [Bool.false_eq_true, if_true, if_false]; omega
  · refine ret_of_awp tab Tryz.func93 rfl rfl (Nat.le_of_ble_eq_true rfl) (fun w0 F0 => ?_)
    repeat' (first | refine wG ?_ | refine wC ta ?_ | refine wC tb ?_ | refine cl 142 tt rfl rfl rfl (hr := natural_SubN _ _ (by omega) (by omega)) (k := ?_) | refine clR 142 tt rfl rfl rfl (hr := natural_SubN _ _ (by omega) (by omega)) (k := ?_) | refine cl 141 tt rfl rfl rfl (hr := integer_signed _ _ (by omega)) (k := ?_) | refine clR 141 tt rfl rfl rfl (hr := integer_signed _ _ (by omega)) (k := ?_) | refine rg 1 3 ?_ | refine rg 3 7 ?_ | refine wS ?_ ?_ <;> intro _ | refine finG ?_)
    · refine congrArg zD ?_
      rw [e2, f2]; simp only [Bool.false_eq_true, if_true, if_false]; omega
    · refine congrArg zD ?_
      rw [e2, f2]; simp only [Bool.false_eq_true, if_true, if_false]; omega
  · refine ret_of_awp tab Tryz.func93 rfl rfl (Nat.le_of_ble_eq_true rfl) (fun w0 F0 => ?_)
    repeat' (first | refine wG ?_ | refine wC ta ?_ | refine wC tb ?_ | refine cl 142 tt rfl rfl rfl (hr := natural_SubN _ _ (by omega) (by omega)) (k := ?_) | refine clR 142 tt rfl rfl rfl (hr := natural_SubN _ _ (by omega) (by omega)) (k := ?_) | refine cl 141 tt rfl rfl rfl (hr := integer_signed _ _ (by omega)) (k := ?_) | refine clR 141 tt rfl rfl rfl (hr := integer_signed _ _ (by omega)) (k := ?_) | refine rg 1 3 ?_ | refine rg 3 7 ?_ | refine wS ?_ ?_ <;> intro _ | refine finG ?_)
    · refine congrArg zD ?_
      rw [e2, f2]; simp only [Bool.false_eq_true, if_true, if_false]; omega
    · refine congrArg zD ?_
      rw [e2, f2]; simp only [Bool.false_eq_true, if_true, if_false]; omega
  · refine ret_of_awp tab Tryz.func93 rfl rfl (Nat.le_of_ble_eq_true rfl) (fun w0 F0 => ?_)
    repeat' (first | refine wG ?_ | refine wC ta ?_ | refine wC tb ?_ | refine cl 142 tt rfl rfl rfl (hr := natural_SubN _ _ (by omega) (by omega)) (k := ?_) | refine clR 142 tt rfl rfl rfl (hr := natural_SubN _ _ (by omega) (by omega)) (k := ?_) | refine cl 141 tt rfl rfl rfl (hr := integer_signed _ _ (by omega)) (k := ?_) | refine clR 141 tt rfl rfl rfl (hr := integer_signed _ _ (by omega)) (k := ?_) | refine cl 140 tt rfl rfl rfl (hr := natural_AddN _ _ (by omega) (by omega)) (k := ?_) | refine clR 140 tt rfl rfl rfl (hr := natural_AddN _ _ (by omega) (by omega)) (k := ?_) | refine cl 141 tt rfl rfl rfl (hr := integer_signed true _ (by omega)) (k := ?_) | refine clR 141 tt rfl rfl rfl (hr := integer_signed true _ (by omega)) (k := ?_) | refine rg 1 3 ?_ | refine rg 3 7 ?_ | refine wS ?_ ?_ <;> intro _ | refine finG ?_)
    refine congrArg zD ?_
    rw [e2, f2]; simp only [if_true]; omega
theorem integer_MulZ (x y : Int) (h : (limbs x.natAbs).length < 1000000000) (k : (limbs y.natAbs).length < 1000000000) : Ret Tryz.prog 96 [zD x, zD y] (· = zD (x * y)) := by
  have ta := integer_valueZ x (by omega)
  have tb := integer_valueZ y (by omega)
  obtain ⟨s, a, e1, e2, e3, e4⟩ := zD_cases x
  obtain ⟨t, b, f1, f2, f3, f4⟩ := zD_cases y
  rw [e1] at ta
  rw [f1] at tb
  rw [e3] at h
  rw [f3] at k
  have lm := ln_mul a b
  simp only [ln] at lm
  have hm := natural_MulN a b (by omega) (by omega)
  have hs := fun s => integer_signed s (a * b) (by omega)
  rw [e1, f1, e2, f2]
  cases s <;> cases t
  · refine ret_of_awp tab Tryz.func96 rfl rfl (Nat.le_of_ble_eq_true rfl) (fun w0 F0 => ?_)
    repeat' (first | refine wG ?_ | refine wC ta ?_ | refine wC tb ?_ | refine wC hm ?_ | refine wC (hs false) ?_ | refine rg 1 3 ?_ | refine rg 2 10 ?_ | refine wS ?_ ?_ <;> intro _ | refine finG ?_)
    refine congrArg zD ?_
    simp [Int.neg_mul, Int.mul_neg]
  · refine ret_of_awp tab Tryz.func96 rfl rfl (Nat.le_of_ble_eq_true rfl) (fun w0 F0 => ?_)
    repeat' (first | refine wG ?_ | refine wC ta ?_ | refine wC tb ?_ | refine wC hm ?_ | refine wC (hs true) ?_ | refine rg 1 3 ?_ | refine rg 2 10 ?_ | refine wS ?_ ?_ <;> intro _ | refine finG ?_)
    refine congrArg zD ?_
    simp [Int.neg_mul, Int.mul_neg]
  · refine ret_of_awp tab Tryz.func96 rfl rfl (Nat.le_of_ble_eq_true rfl) (fun w0 F0 => ?_)
    repeat' (first | refine wG ?_ | refine wC ta ?_ | refine wC tb ?_ | refine wC hm ?_ | refine wC (hs true) ?_ | refine rg 1 3 ?_ | refine rg 2 10 ?_ | refine wS ?_ ?_ <;> intro _ | refine finG ?_)
    refine congrArg zD ?_
    simp [Int.neg_mul, Int.mul_neg]
  · refine ret_of_awp tab Tryz.func96 rfl rfl (Nat.le_of_ble_eq_true rfl) (fun w0 F0 => ?_)
    repeat' (first | refine wG ?_ | refine wC ta ?_ | refine wC tb ?_ | refine wC hm ?_ | refine wC (hs false) ?_ | refine rg 1 3 ?_ | refine rg 2 10 ?_ | refine wS ?_ ?_ <;> intro _ | refine finG ?_)
    refine congrArg zD ?_
    simp [Int.neg_mul, Int.mul_neg]
theorem cmpZ (x y : Int) (s t : Bool) (a b : Nat) (e2 : x = if s = true then -(a : Int) else a) (f2 : y = if t = true then -(b : Int) else b) (hx : x.sign = y.sign) : x.sign * cmpN a b = (if x < y then -1 else if y < x then 1 else 0) := by
  have hc : cmpN a b = if a < b then -1 else if b < a then 1 else 0 := rfl
  rcases Int.lt_trichotomy x 0 with h | h | h
  · have h1 := Int.sign_eq_neg_one_of_neg h
    have h2 : y < 0 := Int.sign_eq_neg_one_iff_neg.1 (hx ▸ h1)
    rw [h1, hc]
    cases s <;> cases t <;> simp only [Bool.false_eq_true, if_true, if_false] at e2 f2 <;> repeat' split
    all_goals omega
  · have h1 : x.sign = 0 := by rw [h]; rfl
    have h2 : y = 0 := Int.sign_eq_zero_iff_zero.1 (hx ▸ h1)
    rw [h1, Int.zero_mul, if_neg (by omega), if_neg (by omega)]
  · have h1 := Int.sign_eq_one_of_pos h
    have h2 : 0 < y := Int.sign_eq_one_iff_pos.1 (hx ▸ h1)
    rw [h1, hc]
    cases s <;> cases t <;> simp only [Bool.false_eq_true, if_true, if_false] at e2 f2 <;> repeat' split
    all_goals omega
theorem integer_CompareZ (x y : Int) (h : (limbs x.natAbs).length < 1000000000) (k : (limbs y.natAbs).length < 1000000000) : Ret Tryz.prog 156 [zD x, zD y] (· = .int .i64 (if x < y then -1 else if y < x then 1 else 0)) := by
  have ta := integer_valueZ x (by omega)
  have tb := integer_valueZ y (by omega)
  have sa := integer_SignZ x (by omega)
  have sb := integer_SignZ y (by omega)
  obtain ⟨s, a, e1, e2, e3, e4⟩ := zD_cases x
  obtain ⟨t, b, f1, f2, f3, f4⟩ := zD_cases y
  have hcz := cmpZ x y s t a b e2 f2
  rw [e1] at ta sa
  rw [f1] at tb sb
  rw [e3] at h
  rw [f3] at k
  have hc := natural_CompareN a b (by omega) (by omega)
  have hsx : x.sign = -1 ∧ x < 0 ∨ x.sign = 0 ∧ x = 0 ∨ x.sign = 1 ∧ 0 < x := by
    rcases Int.lt_trichotomy x 0 with h | h | h
    · exact .inl ⟨Int.sign_eq_neg_one_of_neg h, h⟩
    · exact .inr (.inl ⟨by rw [h]; rfl, h⟩)
    · exact .inr (.inr ⟨Int.sign_eq_one_of_pos h, h⟩)
  have hsy : y.sign = -1 ∧ y < 0 ∨ y.sign = 0 ∧ y = 0 ∨ y.sign = 1 ∧ 0 < y := by
    rcases Int.lt_trichotomy y 0 with h | h | h
    · exact .inl ⟨Int.sign_eq_neg_one_of_neg h, h⟩
    · exact .inr (.inl ⟨by rw [h]; rfl, h⟩)
    · exact .inr (.inr ⟨Int.sign_eq_one_of_pos h, h⟩)
  have hcb : -1 ≤ cmpN a b ∧ cmpN a b ≤ 1 := by unfold cmpN; split <;> (try split) <;> omega
  rw [e1, f1]
  generalize x.sign = p at *
  generalize y.sign = q at *
  generalize cmpN a b = c at *
  have hpc : -1 ≤ p * c ∧ p * c ≤ 1 := by
    rcases hsx with ⟨h, _⟩ | ⟨h, _⟩ | ⟨h, _⟩ <;> rw [h] <;> omega
  clear e1 f1 e2 f2 e3 f3 e4 f4
  refine ret_of_awp tab Tryz.func156 rfl rfl (Nat.le_of_ble_eq_true rfl) (fun w0 F0 => ?_)
  repeat' (first | refine wG ?_ | refine wC ta ?_ | refine wC tb ?_ | refine wC sa ?_ | refine wC sb ?_ | refine wC hc ?_ | refine rg 1 3 ?_ | refine rg 2 3 ?_ | refine wS ?_ ?_ <;> intro _ | refine finG ?_)
  · rw [if_pos (by omega)]
  · rw [if_neg (by omega), if_pos (by omega)]
  · rw [← hcz (by omega)]
end Go.Proofs.YtejigedigmagdaaGreat

/-
  Rational numbers: what the fields stand for, and the fields of a number. Conditions: as each says.
-/
namespace Go.Vw

def dL (d : Nat) : List Nat := if d = 1 then [] else limbs d
def rq (q : Rat) : R3 := (decide (q.num < 0), limbs q.num.natAbs, dL q.den)
def dv (d : List Nat) : Nat := if d = [] then 1 else val d
def validR (r : R3) : Bool := validI r.1 r.2.1 && valid r.2.2 && !decide (r.2.2 = [1]) && (decide (r.2.2 = []) || (decide (r.2.1 ≠ []) && decide (limbs (Nat.gcd (nv r.2.1) (nv r.2.2)) = [1])))
def rv (r : R3) : Rat := if h : validR r = true ∧ dv r.2.2 ≠ 0 ∧ (iv' r.1 r.2.1).natAbs.Coprime (dv r.2.2) then ⟨iv' r.1 r.2.1, dv r.2.2, h.2.1, h.2.2⟩ else 0

theorem limbs_one : limbs 1 = [1] := limbs_small (by decide) (by decide)
theorem valid_one_of {d : List Nat} (h : valid d = true) (w : WF d) (h1 : d ≠ [1]) (h2 : d ≠ []) : 2 ≤ val d := by
  have e := limbs_val w h
  have a : val d ≠ 0 := fun h0 => h2 (by rw [← e, h0, limbs_zero])
  have b : val d ≠ 1 := fun h0 => h1 (by rw [← e, h0, limbs_one])
  omega
theorem dL_dv {d : List Nat} (h : valid d = true) (w : WF d) (h1 : d ≠ [1]) : dL (dv d) = d := by
  by_cases h2 : d = []
  · subst h2; rfl
  · have := valid_one_of h w h1 h2
    rw [dv, if_neg h2, dL, if_neg (by omega), limbs_val w h]
structure RatOk (r : R3) (k : Nat) : Prop where
  wm : WF r.2.1
  wd : WF r.2.2
  lm : r.2.1.length < k
  ld : r.2.2.length < k
theorem validR_parts {r : R3} (h : validR r = true) (wm : WF r.2.1) (wd : WF r.2.2) : dv r.2.2 ≠ 0 ∧ (iv' r.1 r.2.1).natAbs.Coprime (dv r.2.2) := by
  unfold validR at h
  simp only [Bool.and_eq_true, Bool.or_eq_true, decide_eq_true_eq, Bool.not_eq_true', decide_eq_false_iff_not] at h
  obtain ⟨⟨⟨h1, h2⟩, h3⟩, h4⟩ := h
  by_cases h0 : r.2.2 = []
  · rw [h0]; exact ⟨by decide, by simp [dv]⟩
  · obtain ⟨h4, h5⟩ := h4.resolve_left h0
    have hm : valid r.2.1 = true := by unfold validI at h1; simp at h1; exact h1.1
    have e : dv r.2.2 = val r.2.2 := by rw [dv, if_neg h0]
    have := valid_one_of h2 wd h3 h0
    refine ⟨by rw [e]; omega, ?_⟩
    rw [e, iv'_abs, if_pos h1, Nat.Coprime]
    rw [nv_val hm, nv_val h2, ← limbs_one] at h5
    exact limbs_inj h5
theorem rq_rv {r : R3} (h : validR r = true) (wm : WF r.2.1) (wd : WF r.2.2) : rq (rv r) = r := by
  have hp := validR_parts h wm wd
  unfold rv
  rw [dif_pos ⟨h, hp.1, hp.2⟩]
  unfold validR at h
  simp only [Bool.and_eq_true, Bool.or_eq_true, decide_eq_true_eq, Bool.not_eq_true', decide_eq_false_iff_not] at h
  obtain ⟨⟨⟨h1, h2⟩, h3⟩, h4⟩ := h
  obtain ⟨n, m, d⟩ := r
  simp only at *
  have hz := intC_valid wm h1
  unfold zD intC at hz
  simp only [D.agg.injEq, List.cons.injEq, D.bool.injEq, and_true] at hz
  obtain ⟨g1, g2⟩ := hz
  have g3 : m = limbs (iv' n m).natAbs := by simpa using g2
  unfold rq
  simp only
  rw [dL_dv h2 wd h3, ← g1, ← g3]
theorem dL_valid (d : Nat) : valid (dL d) = true := by
  unfold dL; split
  · rfl
  · exact valid_limbs d
theorem wf_dL (d : Nat) : WF (dL d) := by
  unfold dL; split
  · exact WF.nil
  · exact wf_limbs d
theorem dv_dL {d : Nat} (h : d ≠ 0) : dv (dL d) = d := by
  unfold dL; split
  · rename_i e; rw [e]; rfl
  · rw [dv, if_neg (mt limbs_eq_nil.1 h), val_limbs]
theorem dL_ne1 (d : Nat) : dL d ≠ [1] := by
  unfold dL; split
  · simp
  · rename_i h; rw [← limbs_one]; exact fun e => h (limbs_inj e)
theorem validR_rq (q : Rat) : validR (rq q) = true := by
  unfold validR rq
  simp only [validI_z, dL_valid, Bool.true_and, Bool.and_eq_true, Bool.or_eq_true, decide_eq_true_eq, Bool.not_eq_true', decide_eq_false_iff_not]
  refine ⟨dL_ne1 _, ?_⟩
  by_cases h : q.den = 1
  · left; rw [dL, if_pos h]
  · right
    have hd := q.den_nz
    rw [dL, if_neg h, nv_limbs, nv_limbs]
    have hc : Nat.gcd q.num.natAbs q.den = 1 := q.reduced
    refine ⟨fun e => ?_, by rw [hc, limbs_one]⟩
    rw [limbs_eq_nil] at e
    rw [e, Nat.gcd_zero_left] at hc
    exact h hc
theorem wf_rq (q : Rat) : WF (rq q).2.1 ∧ WF (rq q).2.2 := ⟨wf_limbs _, wf_dL _⟩
theorem rv_rq (q : Rat) : rv (rq q) = q := by
  have hp := validR_parts (validR_rq q) (wf_rq q).1 (wf_rq q).2
  unfold rv
  rw [dif_pos ⟨validR_rq q, hp.1, hp.2⟩]
  have e1 : iv' (rq q).1 (rq q).2.1 = q.num := iv'_z q.num
  have e2 : dv (rq q).2.2 = q.den := dv_dL q.den_nz
  apply Rat.ext
  · exact e1
  · exact e2
theorem rv_invalid {r : R3} (h : validR r = false) : rv r = 0 := by
  unfold rv
  rw [dif_neg]
  rw [h]; simp
theorem rq_zero : rq 0 = r0 := by
  show (decide ((0 : Rat).num < 0), limbs (0 : Rat).num.natAbs, dL (0 : Rat).den) = _
  have a : (0 : Rat).num = 0 := rfl
  have b : (0 : Rat).den = 1 := rfl
  rw [a, b]
  simp [limbs_zero, dL]
theorem rq_inj {p q : Rat} (h : rq p = rq q) : p = q := by rw [← rv_rq p, ← rv_rq q, h]

def okQ (k : Nat) (q : Rat) : Prop := (limbs q.num.natAbs).length < k ∧ (limbs q.den).length < k
theorem okQ.mono {k l : Nat} {q : Rat} (h : okQ k q) (hl : k ≤ l) : okQ l q := ⟨Nat.lt_of_lt_of_le h.1 hl, Nat.lt_of_lt_of_le h.2 hl⟩
theorem okQ_rv {r : R3} {k : Nat} (h : RatOk r k) (hk : 1 < k) : okQ k (rv r) := by
  cases hv : validR r with
  | false => rw [rv_invalid hv]; exact ⟨by show (limbs 0).length < k; rw [limbs_zero]; simp; omega, by show (limbs 1).length < k; rw [limbs_one]; simpa using hk⟩
  | true =>
    have hp := validR_parts hv h.wm h.wd
    unfold rv
    rw [dif_pos ⟨hv, hp.1, hp.2⟩]
    refine ⟨Nat.lt_of_le_of_lt (iv'_len h.wm) h.lm, ?_⟩
    show (limbs (dv r.2.2)).length < k
    unfold dv
    split
    · rw [limbs_one]; simpa using hk
    · exact Nat.lt_of_le_of_lt (length_limbs_le (val_lt h.wd)) h.ld
end Go.Vw

set_option maxHeartbeats 8000000
namespace Go.Proofs.YtejigedigmagdaaGreat
open Go.Vw
attribute [local irreducible] awp awpL awpR

theorem ref02_SignZ (z : Int) (h : (limbs z.natAbs).length < 1000000000000) : Ret Tryz.prog 82 [zD z] (· = .int .i64 z.sign) := by
  have := ref02_Sign _ _ (IntOk.z h); rw [iv'_z] at this; exact this
theorem ref02_NegZ (z : Int) (h : (limbs z.natAbs).length < 1000000000000) : Ret Tryz.prog 123 [zD z] (· = zD (-z)) := by
  have := ref02_Neg _ _ (IntOk.z h); rw [iv'_z] at this; exact this
theorem ref02_AddZ (x y : Int) (h : (limbs x.natAbs).length < 100000000000) (k : (limbs y.natAbs).length < 100000000000) : Ret Tryz.prog 72 [zD x, zD y] (· = zD (x + y)) := by
  have := ref02_Add _ _ _ _ (IntOk.z h) (IntOk.z k); rw [iv'_z, iv'_z] at this; exact this
theorem ref02_MulZ (x y : Int) (h : (limbs x.natAbs).length < 10000000000) (k : (limbs y.natAbs).length < 10000000000) : Ret Tryz.prog 73 [zD x, zD y] (· = zD (x * y)) := by
  have := ref02_Mul _ _ _ _ (IntOk.z h) (IntOk.z k); rw [iv'_z, iv'_z] at this; exact this
theorem ref02_GcdZ (x y : Int) (h : (limbs x.natAbs).length < 100000000) (k : (limbs y.natAbs).length < 100000000) : Ret Tryz.prog 124 [zD x, zD y] (· = u32s (limbs (Int.gcd x y))) := by
  have := ref02_Gcd _ _ _ _ (IntOk.z h) (IntOk.z k); rw [iv'_z, iv'_z] at this; exact this
theorem ref02_DivZ (x y : Int) (h : (limbs x.natAbs).length < 100000000) (k : (limbs y.natAbs).length < 100000000) (h0 : y ≠ 0) : Ret Tryz.prog 125 [zD x, zD y] (· = .tup [zD (x / y), zD (x % y), .bool true]) := by
  have := ref02_Div _ _ _ _ (IntOk.z h) (IntOk.z k) (by rw [iv'_z]; exact h0); rw [iv'_z, iv'_z] at this; exact this
theorem zD_nat (n : Nat) : zD (n : Int) = .agg [.bool false, u32s (limbs n)] := by
  unfold zD intC
  rw [decide_eq_false (by omega), Int.natAbs_natCast]

theorem ref03_one (l : List Nat) (hl : l.length < 10000000000000) : Ret Tryz.prog 126 [u32s l] (· = .bool (decide (l = [1]))) := by
  refine ret_of_awp tab Tryz.func126 rfl rfl (Nat.le_of_ble_eq_true rfl) (fun w0 F0 => ?_)
  repeat' (first | refine wG ?_ | refine wS ?_ ?_ <;> intro _ | refine finG ?_)
  · rename_i h
    obtain ⟨x, rfl⟩ := List.length_eq_one_iff.1 (show l.length = 1 by omega)
    congr 1
    simp; omega
  · rename_i h
    congr 1
    symm; rw [decide_eq_false_iff_not]
    intro e; subst e; exact h rfl
theorem ref03_Valid (r : R3) (h : RatOk r 100000000) : Ret Tryz.prog 115 [rD r] (· = .bool (validR r)) := by
  obtain ⟨n, m, d⟩ := r
  obtain ⟨wm, wd, lm, ld⟩ := h
  simp only at wm wd lm ld
  have hi := ref02_Valid n m (by omega)
  have hd := ref01_Valid d (by omega)
  have h1 := ref03_one d (by omega)
  have hg := ref01_Gcd m d lm ld wm wd
  have lg : (limbs (Nat.gcd (nv m) (nv d))).length < 10000000000000 := by
    have l1 := length_limbs_nv wm
    have l2 := length_limbs_nv wd
    by_cases h0 : nv m = 0
    · rw [h0, Nat.gcd_zero_left]; omega
    · have := limbs_len_mono (Nat.gcd_le_left (nv d) (Nat.pos_of_ne_zero h0)); omega
  have h2 := ref03_one _ lg
  unfold validR
  generalize hvi : validI n m = vi at *
  generalize hvd : valid d = vd at *
  refine ret_of_awp tab Tryz.func115 rfl rfl (Nat.le_of_ble_eq_true rfl) (fun w0 F0 => ?_)
  repeat' (first | refine wG ?_ | refine wC hi ?_ | refine wC hd ?_ | refine wC h1 ?_ | refine wC hg ?_ | refine wC h2 ?_ | refine wS ?_ ?_ <;> intro _ | refine finG ?_)
  all_goals
    clear hi hd h1 hg h2
    congr 1
    simp_all
  rename_i hm
  intro _ e; subst e; simp at hm

theorem ref03_Take (r : R3) (h : RatOk r 100000000) : Ret Tryz.prog 67 [rD r] (· = rD (rq (rv r))) := by
  have hv := ref03_Valid r h
  have e := rq_rv (r := r)
  have e0 := rv_invalid (r := r)
  have okq := okQ_rv h (by decide)
  cases hr : validR r with
  | false =>
    rw [hr] at hv
    rw [e0 hr, rq_zero]
    refine ret_of_awp tab Tryz.func67 rfl rfl (Nat.le_of_ble_eq_true rfl) (fun w0 F0 => ?_)
    repeat' (first | refine wG ?_ | refine wC hv ?_ | refine rg 3 5 ?_ | refine wS ?_ ?_ <;> intro _ | (show retPost _ _ _ _ _; first | refine finF true rfl rfl sc ?_ | refine finF false rfl rfl sc ?_ | refine finC false rfl rfl sc sc ?_ | refine finN rfl rfl sc ?_ | refine finL true rfl rfl sc rfl (LeR.cons rfl leL LeR.nil) ?_ | refine finA true rfl rfl sc ?_ | refine finA false rfl rfl sc ?_ | refine finE true rfl rfl sc ?_ | refine finE false rfl rfl sc ?_))
    exact leL
  | true =>
    rw [hr] at hv
    have e := e hr h.wm h.wd
    rw [e]
    rw [← e] at hv ⊢
    generalize rv r = q at *
    have ht := ref02_TakeZ q.num (by have := okq.1; omega)
    have hd := ref01_Take (dL q.den) (by have := h.ld; rw [← e] at this; have : (dL q.den).length < 100000000 := this; omega)
    rw [takeL, dL_valid, if_pos rfl] at hd
    refine ret_of_awp tab Tryz.func67 rfl rfl (Nat.le_of_ble_eq_true rfl) (fun w0 F0 => ?_)
    repeat' (first | refine wG ?_ | refine wC hv ?_ | refine wC ht ?_ | refine wC hd ?_ | refine rg 3 5 ?_ | refine wS ?_ ?_ <;> intro _ | refine finG ?_)
    rfl
theorem ref03_Den (q : Rat) (h : okQ 100000000 q) : Ret Tryz.prog 74 [rD (rq q)] (· = zD q.den) := by
  have hd := ref01_TakeN q.den (by have := h.2; omega)
  rw [zD_nat]
  by_cases h1 : q.den = 1
  · have e : rq q = (decide (q.num < 0), limbs q.num.natAbs, []) := by rw [rq, h1]; rfl
    rw [e, h1, limbs_one]
    refine ret_of_awp tab Tryz.func74 rfl rfl (Nat.le_of_ble_eq_true rfl) (fun w0 F0 => ?_)
    repeat' (first | refine wG ?_ | refine wS ?_ ?_ <;> intro _ | (show retPost _ _ _ _ _; first | refine finF true rfl rfl sc ?_ | refine finF false rfl rfl sc ?_ | refine finC false rfl rfl sc sc ?_ | refine finN rfl rfl sc ?_ | refine finL true rfl rfl sc rfl (LeR.cons rfl leL LeR.nil) ?_ | refine finA true rfl rfl sc ?_ | refine finA false rfl rfl sc ?_ | refine finE true rfl rfl sc ?_ | refine finE false rfl rfl sc ?_))
    exact leL
  · have e : rq q = (decide (q.num < 0), limbs q.num.natAbs, limbs q.den) := by rw [rq, dL, if_neg h1]
    have l0 : (limbs q.den).length ≠ 0 := fun e => q.den_nz (limbs_eq_nil.1 (List.length_eq_zero_iff.1 e))
    rw [e]
    show Ret _ _ [.agg [.bool (decide (q.num < 0)), u32s (limbs q.num.natAbs), u32s (limbs q.den)]] _
    refine ret_of_awp tab Tryz.func74 rfl rfl (Nat.le_of_ble_eq_true rfl) (fun w0 F0 => ?_)
    repeat' (first | refine wG ?_ | refine wC hd ?_ | refine wS ?_ ?_ <;> intro _ | (show retPost _ _ _ _ _; first | refine finF true rfl rfl sc ?_ | refine finF false rfl rfl sc ?_ | refine finC false rfl rfl sc sc ?_ | refine finN rfl rfl sc ?_ | refine finL true rfl rfl sc rfl (LeR.cons rfl leL LeR.nil) ?_ | refine finA true rfl rfl sc ?_ | refine finA false rfl rfl sc ?_ | refine finE true rfl rfl sc ?_ | refine finE false rfl rfl sc ?_))
    exact leL

theorem divInt_parts (a b : Int) (hb : 0 < b) : rq (Rat.divInt a b) = (decide (a / (Int.gcd a b : Nat) < 0), limbs (a / (Int.gcd a b : Nat)).natAbs, dL (b / (Int.gcd a b : Nat)).natAbs) := by
  unfold rq
  rw [Rat.num_divInt, Rat.den_divInt, if_neg (by omega), Int.sign_eq_one_of_pos hb, Int.one_mul, Int.gcd_comm b a]
  have : (b / (Int.gcd a b : Nat)).natAbs = b.natAbs / Int.gcd a b := by
    obtain ⟨n, rfl⟩ := Int.eq_ofNat_of_zero_le (show 0 ≤ b by omega)
    rw [← Int.natCast_ediv, Int.natAbs_natCast, Int.natAbs_natCast]
  rw [this]
theorem over_pos (a b : Int) (hb : 0 < b) (la : (limbs a.natAbs).length < 100000000) (lb : (limbs b.natAbs).length < 100000000) : Ret Tryz.prog 71 [zD a, zD b] (· = rD (rq (Rat.divInt a b))) := by
  have hs := ref02_SignZ b (by omega)
  rw [Int.sign_eq_one_of_pos hb] at hs
  have hg := ref02_GcdZ a b la lb
  have g0 : Int.gcd a b ≠ 0 := fun e => by have := Int.eq_zero_of_gcd_eq_zero_right e; omega
  have lg : (limbs ((Int.gcd a b : Nat) : Int).natAbs).length < 100000000 := by
    rw [Int.natAbs_natCast]
    exact len_bound (Nat.le_of_dvd (by omega) (Int.gcd_dvd_natAbs_right a b)) lb
  have h1 := ref02_DivZ a (Int.gcd a b : Nat) la lg (by omega)
  have h2 := ref02_DivZ b (Int.gcd a b : Nat) lb lg (by omega)
  rw [zD_nat] at h1 h2
  have ho := ref03_one (limbs (b / (Int.gcd a b : Nat)).natAbs) (by
    have := limbs_len_mono (m := (b / (Int.gcd a b : Nat)).natAbs) (n := b.natAbs) (by
      rw [Int.natAbs_ediv_of_nonneg (by omega)]
      exact Nat.div_le_self _ _)
    omega)
  rw [divInt_parts a b hb]
  show Ret _ _ _ (· = .agg [.bool (decide (a / (Int.gcd a b : Nat) < 0)), u32s (limbs (a / (Int.gcd a b : Nat)).natAbs), u32s (dL (b / (Int.gcd a b : Nat)).natAbs)])
  generalize a / (Int.gcd a b : Nat) = x at *
  generalize b / (Int.gcd a b : Nat) = y at *
  refine ret_of_awp tab Tryz.func71 rfl rfl (Nat.le_of_ble_eq_true rfl) (fun w0 F0 => ?_)
  repeat' (first | refine wG ?_ | refine wC hs ?_ | refine wC hg ?_ | refine wC h1 ?_ | refine wC h2 ?_ | refine wC ho ?_ | refine rg 2 3 ?_ | refine wS ?_ ?_ <;> intro _ | (show retPost _ _ _ _ _; first | refine finF true rfl rfl sc ?_ | refine finF false rfl rfl sc ?_ | refine finC false rfl rfl sc sc ?_ | refine finN rfl rfl sc ?_ | refine finL true rfl rfl sc rfl (LeR.cons rfl leL LeR.nil) ?_ | refine finA true rfl rfl sc ?_ | refine finA false rfl rfl sc ?_ | refine finE true rfl rfl sc ?_ | refine finE false rfl rfl sc ?_))
  · rename_i e
    rw [show dL y.natAbs = [] by rw [dL, if_pos (limbs_inj (e.trans limbs_one.symm))]]
    exact leL
  · rename_i e
    rw [show dL y.natAbs = limbs y.natAbs by rw [dL, if_neg (fun h => e (by rw [h, limbs_one]))]]
    exact leL
theorem over_neg (a b : Int) (hb : b < 0) (la : (limbs a.natAbs).length < 100000000) (lb : (limbs b.natAbs).length < 100000000) : Ret Tryz.prog 71 [zD a, zD b] (· = rD (rq (Rat.divInt a b))) := by
  have hs := ref02_SignZ b (by omega)
  rw [Int.sign_eq_neg_one_of_neg hb] at hs
  have na := ref02_NegZ a (by omega)
  have nb := ref02_NegZ b (by omega)
  rw [← Rat.neg_divInt_neg]
  have hb : 0 < -b := by omega
  rw [← Int.natAbs_neg] at la lb
  generalize -a = a' at *
  generalize -b = b' at *
  have hg := ref02_GcdZ a' b' la lb
  have g0 : Int.gcd a' b' ≠ 0 := fun e => by have := Int.eq_zero_of_gcd_eq_zero_right e; omega
  have lg : (limbs ((Int.gcd a' b' : Nat) : Int).natAbs).length < 100000000 := by
    rw [Int.natAbs_natCast]
    exact len_bound (Nat.le_of_dvd (by omega) (Int.gcd_dvd_natAbs_right a' b')) lb
  have h1 := ref02_DivZ a' (Int.gcd a' b' : Nat) la lg (by omega)
  have h2 := ref02_DivZ b' (Int.gcd a' b' : Nat) lb lg (by omega)
  rw [zD_nat] at h1 h2
  have ho := ref03_one (limbs (b' / (Int.gcd a' b' : Nat)).natAbs) (by
    have := limbs_len_mono (m := (b' / (Int.gcd a' b' : Nat)).natAbs) (n := b'.natAbs) (by
      rw [Int.natAbs_ediv_of_nonneg (by omega)]
      exact Nat.div_le_self _ _)
    omega)
  rw [divInt_parts a' b' hb]
  show Ret _ _ _ (· = .agg [.bool (decide (a' / (Int.gcd a' b' : Nat) < 0)), u32s (limbs (a' / (Int.gcd a' b' : Nat)).natAbs), u32s (dL (b' / (Int.gcd a' b' : Nat)).natAbs)])
  generalize a' / (Int.gcd a' b' : Nat) = x at *
  generalize b' / (Int.gcd a' b' : Nat) = y at *
  refine ret_of_awp tab Tryz.func71 rfl rfl (Nat.le_of_ble_eq_true rfl) (fun w0 F0 => ?_)
  repeat' (first | refine wG ?_ | refine wC hs ?_ | refine wC na ?_ | refine wC nb ?_ | refine wC hg ?_ | refine wC h1 ?_ | refine wC h2 ?_ | refine wC ho ?_ | refine rg 2 3 ?_ | refine wS ?_ ?_ <;> intro _ | (show retPost _ _ _ _ _; first | refine finF true rfl rfl sc ?_ | refine finF false rfl rfl sc ?_ | refine finC false rfl rfl sc sc ?_ | refine finN rfl rfl sc ?_ | refine finL true rfl rfl sc rfl (LeR.cons rfl leL LeR.nil) ?_ | refine finA true rfl rfl sc ?_ | refine finA false rfl rfl sc ?_ | refine finE true rfl rfl sc ?_ | refine finE false rfl rfl sc ?_))
  · rename_i e
    rw [show dL y.natAbs = [] by rw [dL, if_pos (limbs_inj (e.trans limbs_one.symm))]]
    exact leL
  · rename_i e
    rw [show dL y.natAbs = limbs y.natAbs by rw [dL, if_neg (fun h => e (by rw [h, limbs_one]))]]
    exact leL
theorem ref03_over (a b : Int) (hb : b ≠ 0) (la : (limbs a.natAbs).length < 100000000) (lb : (limbs b.natAbs).length < 100000000) : Ret Tryz.prog 71 [zD a, zD b] (· = rD (rq (Rat.divInt a b))) := by
  rcases Int.lt_or_gt_of_ne hb with h | h
  · exact over_neg a b h la lb
  · exact over_pos a b h la lb

theorem ref03_Add (r t : R3) (hr : RatOk r 10000000) (ht : RatOk t 10000000) : Ret Tryz.prog 23 [rD r, rD t] (· = rD (rq (rv r + rv t))) := by
  have tr := ref03_Take r ⟨hr.wm, hr.wd, by have := hr.lm; omega, by have := hr.ld; omega⟩
  have tk := ref03_Take t ⟨ht.wm, ht.wd, by have := ht.lm; omega, by have := ht.ld; omega⟩
  have or := okQ_rv hr (by decide)
  have ot := okQ_rv ht (by decide)
  generalize rv r = x at *
  generalize rv t = y at *
  have dx := ref03_Den x (or.mono (by decide))
  have dy := ref03_Den y (ot.mono (by decide))
  obtain ⟨x1, x2⟩ := or
  obtain ⟨y1, y2⟩ := ot
  have m1 := ref02_MulZ x.num y.den (by omega) (by rw [Int.natAbs_natCast]; omega)
  have m2 := ref02_MulZ y.num x.den (by omega) (by rw [Int.natAbs_natCast]; omega)
  have m3 := ref02_MulZ x.den y.den (by rw [Int.natAbs_natCast]; omega) (by rw [Int.natAbs_natCast]; omega)
  have l1 := ln_mul x.num.natAbs y.den
  have l2 := ln_mul y.num.natAbs x.den
  have l3 := ln_mul x.den y.den
  simp only [ln] at l1 l2 l3
  have e1 : (x.num * (y.den : Int)).natAbs = x.num.natAbs * y.den := by rw [Int.natAbs_mul, Int.natAbs_natCast]
  have e2 : (y.num * (x.den : Int)).natAbs = y.num.natAbs * x.den := by rw [Int.natAbs_mul, Int.natAbs_natCast]
  have e3 : ((x.den : Int) * (y.den : Int)).natAbs = x.den * y.den := by rw [Int.natAbs_mul, Int.natAbs_natCast, Int.natAbs_natCast]
  have a1 := ref02_AddZ (x.num * y.den) (y.num * x.den) (by rw [e1]; omega) (by rw [e2]; omega)
  have l4 := ln_mono (Int.natAbs_add_le (x.num * y.den) (y.num * x.den))
  have l5 := ln_add (x.num * (y.den : Int)).natAbs (y.num * (x.den : Int)).natAbs
  simp only [ln] at l4 l5
  rw [e1, e2] at l4 l5
  have o := ref03_over (x.num * y.den + y.num * x.den) (x.den * y.den) (by have := x.den_nz; have := y.den_nz; simp; omega) (by omega) (by rw [e3]; omega)
  rw [show Rat.divInt (x.num * y.den + y.num * x.den) ((x.den : Int) * y.den) = x + y by rw [Rat.add_def', ← Rat.divInt_ofNat]; simp] at o
  refine ret_of_awp tab Tryz.func23 rfl rfl (Nat.le_of_ble_eq_true rfl) (fun w0 F0 => ?_)
  repeat' (first | refine wG ?_ | refine wC tr ?_ | refine wC tk ?_ | refine wC dx ?_ | refine wC dy ?_ | refine wC m1 ?_ | refine wC m2 ?_ | refine wC m3 ?_ | refine wC a1 ?_ | refine wC o ?_ | refine rg 1 3 ?_ | refine rg 2 14 ?_ | refine wS ?_ ?_ <;> intro _ | refine finG ?_)
  rfl
theorem ref03_Mul (r t : R3) (hr : RatOk r 10000000) (ht : RatOk t 10000000) : Ret Tryz.prog 24 [rD r, rD t] (· = rD (rq (rv r * rv t))) := by
  have tr := ref03_Take r ⟨hr.wm, hr.wd, by have := hr.lm; omega, by have := hr.ld; omega⟩
  have tk := ref03_Take t ⟨ht.wm, ht.wd, by have := ht.lm; omega, by have := ht.ld; omega⟩
  have or := okQ_rv hr (by decide)
  have ot := okQ_rv ht (by decide)
  generalize rv r = x at *
  generalize rv t = y at *
  have dx := ref03_Den x (or.mono (by decide))
  have dy := ref03_Den y (ot.mono (by decide))
  obtain ⟨x1, x2⟩ := or
  obtain ⟨y1, y2⟩ := ot
  have m1 := ref02_MulZ x.num y.num (by omega) (by omega)
  have m3 := ref02_MulZ x.den y.den (by rw [Int.natAbs_natCast]; omega) (by rw [Int.natAbs_natCast]; omega)
  have l1 := ln_mul x.num.natAbs y.num.natAbs
  have l3 := ln_mul x.den y.den
  simp only [ln] at l1 l3
  have e1 : (x.num * y.num).natAbs = x.num.natAbs * y.num.natAbs := Int.natAbs_mul _ _
  have e3 : ((x.den : Int) * (y.den : Int)).natAbs = x.den * y.den := by rw [Int.natAbs_mul, Int.natAbs_natCast, Int.natAbs_natCast]
  have o := ref03_over (x.num * y.num) (x.den * y.den) (by have := x.den_nz; have := y.den_nz; simp; omega) (by rw [e1]; omega) (by rw [e3]; omega)
  rw [show Rat.divInt (x.num * y.num) ((x.den : Int) * y.den) = x * y by rw [Rat.mul_def', ← Rat.divInt_ofNat]; simp] at o
  refine ret_of_awp tab Tryz.func24 rfl rfl (Nat.le_of_ble_eq_true rfl) (fun w0 F0 => ?_)
  repeat' (first | refine wG ?_ | refine wC tr ?_ | refine wC tk ?_ | refine wC dx ?_ | refine wC dy ?_ | refine wC m1 ?_ | refine wC m3 ?_ | refine wC o ?_ | refine rg 1 3 ?_ | refine rg 2 8 ?_ | refine wS ?_ ?_ <;> intro _ | refine finG ?_)
  rfl
theorem ref03_Quo (r t : R3) (hr : RatOk r 10000000) (ht : RatOk t 10000000) (h0 : rv t ≠ 0) : Ret Tryz.prog 26 [rD r, rD t] (· = rD (rq (rv r / rv t))) := by
  have tr := ref03_Take r ⟨hr.wm, hr.wd, by have := hr.lm; omega, by have := hr.ld; omega⟩
  have tk := ref03_Take t ⟨ht.wm, ht.wd, by have := ht.lm; omega, by have := ht.ld; omega⟩
  have or := okQ_rv hr (by decide)
  have ot := okQ_rv ht (by decide)
  generalize rv r = x at *
  generalize rv t = y at *
  have dx := ref03_Den x (or.mono (by decide))
  have dy := ref03_Den y (ot.mono (by decide))
  obtain ⟨x1, x2⟩ := or
  obtain ⟨y1, y2⟩ := ot
  have hy : y.num ≠ 0 := mt Rat.num_eq_zero.1 h0
  have m1 := ref02_MulZ x.num y.den (by omega) (by rw [Int.natAbs_natCast]; omega)
  have m3 := ref02_MulZ x.den y.num (by rw [Int.natAbs_natCast]; omega) (by omega)
  have l1 := ln_mul x.num.natAbs y.den
  have l3 := ln_mul x.den y.num.natAbs
  simp only [ln] at l1 l3
  have e1 : (x.num * (y.den : Int)).natAbs = x.num.natAbs * y.den := by rw [Int.natAbs_mul, Int.natAbs_natCast]
  have e3 : ((x.den : Int) * y.num).natAbs = x.den * y.num.natAbs := by rw [Int.natAbs_mul, Int.natAbs_natCast]
  have o := ref03_over (x.num * y.den) (x.den * y.num) (by have := x.den_nz; exact Int.mul_ne_zero (by omega) hy) (by rw [e1]; omega) (by rw [e3]; omega)
  rw [show Rat.divInt (x.num * y.den) ((x.den : Int) * y.num) = x / y by
    rw [Rat.div_def]
    conv => rhs; rw [← Rat.num_divInt_den x, ← Rat.num_divInt_den y]
    rw [Rat.inv_divInt, Rat.divInt_mul_divInt]] at o
  refine ret_of_awp tab Tryz.func26 rfl rfl (Nat.le_of_ble_eq_true rfl) (fun w0 F0 => ?_)
  repeat' (first | refine wG ?_ | refine wC tr ?_ | refine wC tk ?_ | refine wC dx ?_ | refine wC dy ?_ | refine wC m1 ?_ | refine wC m3 ?_ | refine wC o ?_ | refine rg 1 3 ?_ | refine rg 2 9 ?_ | refine wS ?_ ?_ <;> intro _ | refine finG ?_)
  rfl
theorem ref03_Sign (r : R3) (hr : RatOk r 10000000) : Ret Tryz.prog 32 [rD r] (· = .int .i64 (rv r).num.sign) := by
  have tr := ref03_Take r ⟨hr.wm, hr.wd, by have := hr.lm; omega, by have := hr.ld; omega⟩
  have or := okQ_rv hr (by decide)
  generalize rv r = x at *
  have hs := ref02_SignZ x.num (by have := or.1; omega)
  refine ret_of_awp tab Tryz.func32 rfl rfl (Nat.le_of_ble_eq_true rfl) (fun w0 F0 => ?_)
  repeat' (first | refine wG ?_ | refine wC tr ?_ | refine wC hs ?_ | refine wS ?_ ?_ <;> intro _ | refine finG ?_)
  rfl
theorem ref03_Neg (r : R3) (hr : RatOk r 10000000) : Ret Tryz.prog 81 [rD r] (· = rD (rq (-rv r))) := by
  have tr := ref03_Take r ⟨hr.wm, hr.wd, by have := hr.lm; omega, by have := hr.ld; omega⟩
  have or := okQ_rv hr (by decide)
  generalize rv r = x at *
  have hs := ref02_NegZ x.num (by have := or.1; omega)
  have e : rq (-x) = (decide (-x.num < 0), limbs (-x.num).natAbs, dL x.den) := rfl
  rw [e]
  refine ret_of_awp tab Tryz.func81 rfl rfl (Nat.le_of_ble_eq_true rfl) (fun w0 F0 => ?_)
  repeat' (first | refine wG ?_ | refine wC tr ?_ | refine wC hs ?_ | refine rg 2 5 ?_ | refine wS ?_ ?_ <;> intro _ | refine finG ?_)
  rfl
theorem ok_rq {q : Rat} {k : Nat} (h : okQ k q) : RatOk (rq q) k := by
  refine ⟨(wf_rq q).1, (wf_rq q).2, h.1, ?_⟩
  show (dL q.den).length < k
  unfold dL; split
  · exact Nat.lt_of_le_of_lt (Nat.zero_le _) h.1
  · exact h.2
theorem ref03_AddQ (x y : Rat) (hx : okQ 10000000 x) (hy : okQ 10000000 y) : Ret Tryz.prog 23 [rD (rq x), rD (rq y)] (· = rD (rq (x + y))) := by
  have := ref03_Add (rq x) (rq y) (ok_rq hx) (ok_rq hy)
  rw [rv_rq, rv_rq] at this; exact this
theorem ref03_MulQ (x y : Rat) (hx : okQ 10000000 x) (hy : okQ 10000000 y) : Ret Tryz.prog 24 [rD (rq x), rD (rq y)] (· = rD (rq (x * y))) := by
  have := ref03_Mul (rq x) (rq y) (ok_rq hx) (ok_rq hy)
  rw [rv_rq, rv_rq] at this; exact this
theorem ref03_SignQ (x : Rat) (hx : okQ 10000000 x) : Ret Tryz.prog 32 [rD (rq x)] (· = .int .i64 x.num.sign) := by
  have := ref03_Sign (rq x) (ok_rq hx)
  rw [rv_rq] at this; exact this
theorem ref03_QuoQ (x y : Rat) (hx : okQ 10000000 x) (hy : okQ 10000000 y) (h0 : y ≠ 0) : Ret Tryz.prog 26 [rD (rq x), rD (rq y)] (· = rD (rq (x / y))) := by
  have := ref03_Quo (rq x) (rq y) (ok_rq hx) (ok_rq hy) (by rw [rv_rq]; exact h0)
  rw [rv_rq, rv_rq] at this; exact this
end Go.Proofs.YtejigedigmagdaaGreat

set_option maxHeartbeats 8000000
namespace Go.Proofs.YtejigedigmagdaaGreat
open Go.Vw
attribute [local irreducible] awp awpL awpR

theorem rational_one : Ret Tryz.prog 139 [] (· = u32s [1]) := by
  refine ret_of_awp tab Tryz.func139 rfl rfl (Nat.le_of_ble_eq_true rfl) (fun w0 F0 => ?_)
  repeat' (first | refine wG ?_ | refine wS ?_ ?_ <;> intro _ | refine finG ?_)
  rfl
theorem nv_one : nv [1] = 1 := by decide
theorem natural_CompareOne (d : List Nat) (wd : WF d) (hl : d.length < 10000000000) : Ret Tryz.prog 145 [u32s d, u32s [1]] (· = .int .i64 (cmpN (nv d) 1)) := by
  have := natural_Compare d [1] wd (by intro x hx; simp at hx; subst hx; decide) hl (by decide)
  rw [nv_one] at this
  exact this
theorem rational_Valid (r : R3) (h : RatOk r 100000000) : Ret Tryz.prog 136 [rD r] (· = .bool (validR r)) := by
  obtain ⟨n, m, d⟩ := r
  obtain ⟨wm, wd, lm, ld⟩ := h
  simp only at wm wd lm ld
  have hi := integer_Valid n m (by omega)
  have hd := natural_Valid d (by omega)
  have h1 := rational_one
  have hc := natural_CompareOne d wd (by omega)
  unfold validR
  cases hvi : validI n m with
  | false =>
    rw [hvi] at hi
    refine ret_of_awp tab Tryz.func136 rfl rfl (Nat.le_of_ble_eq_true rfl) (fun w0 F0 => ?_)
    repeat' (first | refine wG ?_ | refine wC hi ?_ | refine rg 5 9 ?_ | refine wS ?_ ?_ <;> intro _ | refine finG ?_)
    rfl
  | true =>
    rw [hvi] at hi
    cases hvd : valid d with
    | false =>
      rw [hvd] at hd
      refine ret_of_awp tab Tryz.func136 rfl rfl (Nat.le_of_ble_eq_true rfl) (fun w0 F0 => ?_)
      repeat' (first | refine wG ?_ | refine wC hi ?_ | refine wC hd ?_ | refine rg 5 9 ?_ | refine wS ?_ ?_ <;> intro _ | refine finG ?_)
      rfl
    | true =>
      rw [hvd] at hd
      have hm : valid m = true := by unfold validI at hvi; simp at hvi; exact hvi.1
      have em := limbs_nv wm hm
      have ed := limbs_nv wd hvd
      have hg := natural_GcdN (nv m) (nv d) (by rw [em]; exact lm) (by rw [ed]; exact ld)
      have lg : (limbs (Nat.gcd (nv m) (nv d))).length < 10000000000 := by
        by_cases h0 : nv m = 0
        · rw [h0, Nat.gcd_zero_left, ed]; omega
        · have := limbs_len_mono (Nat.gcd_le_left (nv d) (Nat.pos_of_ne_zero h0)); rw [em] at this; omega
      have hc2 := natural_CompareOne (limbs (Nat.gcd (nv m) (nv d))) (wf_limbs _) lg
      rw [nv_limbs] at hc2
      rw [em, ed] at hg
      have z1 := cmpN_zero (nv d) 1
      have z2 := cmpN_zero (Nat.gcd (nv m) (nv d)) 1
      have e1 : d = [1] ↔ nv d = 1 := ⟨fun e => by rw [e]; exact nv_one, fun e => by rw [← ed, e, limbs_one]⟩
      have e2 : limbs (Nat.gcd (nv m) (nv d)) = [1] ↔ Nat.gcd (nv m) (nv d) = 1 := ⟨fun e => limbs_inj (e.trans limbs_one.symm), fun e => by rw [e, limbs_one]⟩
      have e3 : d = [] ↔ d.length = 0 := List.length_eq_zero_iff.symm
      have e4 : m = [] ↔ m.length = 0 := List.length_eq_zero_iff.symm
      rw [show decide (d = [1]) = decide (cmpN (nv d) 1 = 0) from decide_eq_decide.2 (e1.trans z1.symm), show decide (d = []) = decide (d.length = 0) from decide_eq_decide.2 e3, show decide (limbs (Nat.gcd (nv m) (nv d)) = [1]) = decide (cmpN (Nat.gcd (nv m) (nv d)) 1 = 0) from decide_eq_decide.2 (e2.trans z2.symm), show decide (m ≠ []) = decide (m.length ≠ 0) from decide_eq_decide.2 (not_congr e4)]
      have e5 : d.length = 0 → cmpN (nv d) 1 ≠ 0 := fun h => by
        have : nv d = 0 := by rw [e3.2 h]; rfl
        rw [ne_eq, z1]; omega
      clear e1 e2 e3 e4 em ed z1 z2
      generalize cmpN (nv d) 1 = c1 at *
      generalize cmpN (Nat.gcd (nv m) (nv d)) 1 = c2 at *
      refine ret_of_awp tab Tryz.func136 rfl rfl (Nat.le_of_ble_eq_true rfl) (fun w0 F0 => ?_)
      repeat' (first | refine wG ?_ | refine wC hi ?_ | refine wC hd ?_ | refine wC h1 ?_ | refine wC hc ?_ | refine wC hg ?_ | refine wC hc2 ?_ | refine rg 5 9 ?_ | refine wS ?_ ?_ <;> intro _ | refine finG ?_)
      · rename_i x
        have x : d.length = 0 := Int.ofNat_eq_zero.1 x
        simp [x, e5 x]
      · rename_i x y
        have x := mt Int.ofNat_eq_zero.2 x
        have y := Int.ofNat_eq_zero.1 y
        simp [show ¬ d.length = 0 from x, show m.length = 0 from y]
      · rename_i x y z
        simp [z]
      · rename_i x y z
        have x := mt Int.ofNat_eq_zero.2 x
        have y := mt Int.ofNat_eq_zero.2 y
        simp [show ¬ d.length = 0 from x, show ¬ m.length = 0 from y, z]
theorem rational_value (r : R3) (h : RatOk r 100000000) : Ret Tryz.prog 86 [rD r] (· = rD (rq (rv r))) := by
  have hv := rational_Valid r h
  have e := rq_rv (r := r)
  have e0 := rv_invalid (r := r)
  cases hr : validR r with
  | false =>
    rw [hr] at hv
    rw [e0 hr, rq_zero]
    refine ret_of_awp tab Tryz.func86 rfl rfl (Nat.le_of_ble_eq_true rfl) (fun w0 F0 => ?_)
    repeat' (first | refine wG ?_ | refine wC hv ?_ | refine wS ?_ ?_ <;> intro _ | (show retPost _ _ _ _ _; first | refine finF true rfl rfl sc ?_ | refine finF false rfl rfl sc ?_ | refine finC false rfl rfl sc sc ?_ | refine finN rfl rfl sc ?_ | refine finL true rfl rfl sc rfl (LeR.cons rfl leL LeR.nil) ?_ | refine finA true rfl rfl sc ?_ | refine finA false rfl rfl sc ?_ | refine finE true rfl rfl sc ?_ | refine finE false rfl rfl sc ?_))
    exact leL
  | true =>
    rw [hr] at hv
    rw [e hr h.wm h.wd]
    refine ret_of_awp tab Tryz.func86 rfl rfl (Nat.le_of_ble_eq_true rfl) (fun w0 F0 => ?_)
    repeat' (first | refine wG ?_ | refine wC hv ?_ | refine wS ?_ ?_ <;> intro _ | refine finG ?_)
    rfl
theorem rational_den (q : Rat) (h : okQ 100000000 q) : Ret Tryz.prog 91 [rD (rq q)] (· = u32s (limbs q.den)) := by
  have h1 := rational_one
  by_cases hq : q.den = 1
  · have e : rq q = (decide (q.num < 0), limbs q.num.natAbs, []) := by rw [rq, hq]; rfl
    rw [e, hq, limbs_one]
    refine ret_of_awp tab Tryz.func91 rfl rfl (Nat.le_of_ble_eq_true rfl) (fun w0 F0 => ?_)
    repeat' (first | refine wG ?_ | refine wC h1 ?_ | refine wS ?_ ?_ <;> intro _ | refine finG ?_)
    rfl
  · have e : rq q = (decide (q.num < 0), limbs q.num.natAbs, limbs q.den) := by rw [rq, dL, if_neg hq]
    have l0 : (limbs q.den).length ≠ 0 := fun e => q.den_nz (limbs_eq_nil.1 (List.length_eq_zero_iff.1 e))
    rw [e]
    show Ret _ _ [.agg [.bool (decide (q.num < 0)), u32s (limbs q.num.natAbs), u32s (limbs q.den)]] _
    refine ret_of_awp tab Tryz.func91 rfl rfl (Nat.le_of_ble_eq_true rfl) (fun w0 F0 => ?_)
    repeat' (first | refine wG ?_ | refine wS ?_ ?_ <;> intro _ | refine finG ?_)
    rfl
theorem lowest_parts (z : Int) (d : Nat) (hd : d ≠ 0) : rq (Rat.divInt z d) = (decide (z < 0), limbs (z.natAbs / Nat.gcd z.natAbs d), dL (d / Nat.gcd z.natAbs d)) := by
  have hg : 0 < Nat.gcd z.natAbs d := Nat.gcd_pos_of_pos_right _ (by omega)
  rw [divInt_parts z d (by omega)]
  have e1 : (Int.gcd z d : Nat) = Nat.gcd z.natAbs d := by unfold Int.gcd; rw [Int.natAbs_natCast]
  rw [e1]
  generalize hgg : Nat.gcd z.natAbs d = g at *
  have hdv : (g : Int) ∣ z := by rw [← Int.natAbs_dvd_natAbs, Int.natAbs_natCast, ← hgg]; exact Nat.gcd_dvd_left _ _
  obtain ⟨k, rfl⟩ := hdv
  have hgi : (0 : Int) < g := by omega
  rw [Int.mul_ediv_cancel_left _ (by omega), Int.natAbs_mul, Int.natAbs_natCast, Nat.mul_div_cancel_left _ hg]
  have e2 : ((d : Int) / (g : Int)).natAbs = d / g := by rw [← Int.natCast_ediv, Int.natAbs_natCast]
  rw [e2]
  congr 1
  refine decide_eq_decide.2 ?_
  constructor
  · intro h; exact Int.mul_neg_of_pos_of_neg hgi h
  · intro h
    exact Classical.byContradiction fun hn => by
      have := Int.mul_nonneg (Int.le_of_lt hgi) (show 0 ≤ k by omega)
      omega
theorem rational_lowest (z : Int) (d : Nat) (hd : d ≠ 0) (lz : (limbs z.natAbs).length < 100000000) (ld : (limbs d).length < 100000000) : Ret Tryz.prog 94 [zD z, u32s (limbs d)] (· = rD (rq (Rat.divInt z d))) := by
  have h1 := rational_one
  have hgp : 0 < Nat.gcd z.natAbs d := Nat.gcd_pos_of_pos_right _ (by omega)
  have hg := natural_GcdN z.natAbs d lz ld
  have hgl := len_bound (Nat.le_of_dvd (by omega) (Nat.gcd_dvd_right z.natAbs d)) ld
  rw [lowest_parts z d hd]
  show Ret _ _ _ (· = .agg [.bool (decide (z < 0)), u32s (limbs (z.natAbs / Nat.gcd z.natAbs d)), u32s (dL (d / Nat.gcd z.natAbs d))])
  have h2 := natural_DivN z.natAbs (Nat.gcd z.natAbs d) (by omega) (by omega) (by omega)
  have h3 := natural_DivN d (Nat.gcd z.natAbs d) (by omega) (by omega) (by omega)
  have hq := len_bound (Nat.div_le_self d (Nat.gcd z.natAbs d)) ld
  have hc := natural_CompareOne (limbs (d / Nat.gcd z.natAbs d)) (wf_limbs _) (by omega)
  rw [nv_limbs] at hc
  have hz := cmpN_zero (d / Nat.gcd z.natAbs d) 1
  clear hgp
  generalize z.natAbs / Nat.gcd z.natAbs d = p at *
  generalize d / Nat.gcd z.natAbs d = q at *
  generalize Nat.gcd z.natAbs d = g at *
  unfold dL
  by_cases hq1 : q = 1
  · rw [if_pos hq1]
    rw [hz.2 hq1] at hc
    refine ret_of_awp tab Tryz.func94 rfl rfl (Nat.le_of_ble_eq_true rfl) (fun w0 F0 => ?_)
    repeat' (first | refine wG ?_ | refine wC h1 ?_ | refine wC hg ?_ | refine wC h2 ?_ | refine wC h3 ?_ | refine wC hc ?_ | refine wS ?_ ?_ <;> intro _ | (show retPost _ _ _ _ _; first | refine finF true rfl rfl sc ?_ | refine finF false rfl rfl sc ?_ | refine finC false rfl rfl sc sc ?_ | refine finN rfl rfl sc ?_ | refine finL true rfl rfl sc rfl (LeR.cons rfl leL LeR.nil) ?_ | refine finA true rfl rfl sc ?_ | refine finA false rfl rfl sc ?_ | refine finE true rfl rfl sc ?_ | refine finE false rfl rfl sc ?_))
    exact leL
  · rw [if_neg hq1]
    have hcz := mt hz.1 hq1
    generalize cmpN q 1 = c at *
    refine ret_of_awp tab Tryz.func94 rfl rfl (Nat.le_of_ble_eq_true rfl) (fun w0 F0 => ?_)
    repeat' (first | refine wG ?_ | refine wC h1 ?_ | refine wC hg ?_ | refine wC h2 ?_ | refine wC h3 ?_ | refine wC hc ?_ | refine wS ?_ ?_ <;> intro _ | refine finG ?_)
    rfl
end Go.Proofs.YtejigedigmagdaaGreat

/-
  Rational numbers: comparison, whole numbers, bounds. Conditions: as each says.
-/
namespace Go.Vw
theorem RatOk.up {r : R3} {k l : Nat} (h : RatOk r k) (hl : k ≤ l) : RatOk r l := ⟨h.wm, h.wd, Nat.lt_of_lt_of_le h.lm hl, Nat.lt_of_lt_of_le h.ld hl⟩
def cmpQ (x y : Rat) : Int := if x < y then -1 else if y < x then 1 else 0
theorem cmpQ_eq (x y : Rat) : cmpQ x y = if x.num * y.den < y.num * x.den then -1 else if y.num * x.den < x.num * y.den then 1 else 0 := by
  unfold cmpQ
  simp only [Rat.lt_iff]
theorem okQ.dl {q : Rat} {k : Nat} (h : okQ k q) : (dL q.den).length < k := by
  unfold dL; split
  · exact Nat.lt_of_le_of_lt (Nat.zero_le _) h.1
  · exact h.2
theorem dL_nil {d : Nat} (h0 : d ≠ 0) : (dL d).length = 0 ↔ d = 1 := by
  unfold dL
  split
  · rename_i h; simp [h]
  · rename_i h
    simp only [h, iff_false]
    exact fun e => h0 (limbs_eq_nil.1 (List.length_eq_zero_iff.1 e))
theorem int_of_den {x : Rat} (h : x.den = 1) : x = (x.num : Rat) := by
  apply Rat.ext
  · rfl
  · rw [h]; rfl
theorem divInt_abs (a b : Int) : Rat.divInt (if b < 0 then -a else a) (b.natAbs : Int) = Rat.divInt a b := by
  split
  · rename_i h
    rw [← Rat.neg_divInt_neg, Int.neg_neg]
    congr 1; omega
  · congr 1; omega
theorem divInt_div (x y : Rat) : Rat.divInt (x.num * y.den) (y.num * x.den) = x / y := by
  rw [Rat.div_def]
  conv => rhs; rw [← Rat.num_divInt_den x, ← Rat.num_divInt_den y]
  rw [Rat.inv_divInt, Rat.divInt_mul_divInt, Int.mul_comm y.num]
end Go.Vw

set_option maxHeartbeats 8000000
namespace Go.Proofs.YtejigedigmagdaaGreat
open Go.Vw
attribute [local irreducible] awp awpL awpR

theorem rational_times (z : Int) (n : Nat) (hz : (limbs z.natAbs).length < 100000000) (hn : (limbs n).length < 100000000) : Ret Tryz.prog 90 [zD z, u32s (limbs n)] (· = zD (z * n)) := by
  have hm := integer_MulZ z n (by omega) (by rw [Int.natAbs_natCast]; omega)
  rw [zD_nat] at hm
  refine ret_of_awp tab Tryz.func90 rfl rfl (Nat.le_of_ble_eq_true rfl) (fun w0 F0 => ?_)
  repeat' (first | refine wG ?_ | refine wC hm ?_ | refine wS ?_ ?_ <;> intro _ | (show retPost _ _ _ _ _; first | refine finF true rfl rfl sc ?_ | refine finF false rfl rfl sc ?_ | refine finC false rfl rfl sc sc ?_ | refine finN rfl rfl sc ?_ | refine finL true rfl rfl sc rfl (LeR.cons rfl leL LeR.nil) ?_ | refine finA true rfl rfl sc ?_ | refine finA false rfl rfl sc ?_ | refine finE true rfl rfl sc ?_ | refine finE false rfl rfl sc ?_))
  exact leL
theorem rational_Compare (r t : R3) (hr : RatOk r 10000000) (ht : RatOk t 10000000) : Ret Tryz.prog 109 [rD r, rD t] (· = .int .i64 (cmpQ (rv r) (rv t))) := by
  have tr := rational_value r (hr.up (by decide))
  have tk := rational_value t (ht.up (by decide))
  have or := okQ_rv hr (by decide)
  have ot := okQ_rv ht (by decide)
  generalize rv r = x at *
  generalize rv t = y at *
  have dx := rational_den x (or.mono (by decide))
  have dy := rational_den y (ot.mono (by decide))
  obtain ⟨x1, x2⟩ := or
  obtain ⟨y1, y2⟩ := ot
  have m1 := rational_times x.num y.den (by omega) (by omega)
  have m2 := rational_times y.num x.den (by omega) (by omega)
  have l1 := ln_mul x.num.natAbs y.den
  have l2 := ln_mul y.num.natAbs x.den
  simp only [ln] at l1 l2
  have e1 : (x.num * (y.den : Int)).natAbs = x.num.natAbs * y.den := by rw [Int.natAbs_mul, Int.natAbs_natCast]
  have e2 : (y.num * (x.den : Int)).natAbs = y.num.natAbs * x.den := by rw [Int.natAbs_mul, Int.natAbs_natCast]
  have hc := integer_CompareZ (x.num * y.den) (y.num * x.den) (by rw [e1]; omega) (by rw [e2]; omega)
  rw [cmpQ_eq]
  refine ret_of_awp tab Tryz.func109 rfl rfl (Nat.le_of_ble_eq_true rfl) (fun w0 F0 => ?_)
  repeat' (first | refine wG ?_ | refine wC tr ?_ | refine wC tk ?_ | refine wC dx ?_ | refine wC dy ?_ | refine wC m1 ?_ | refine wC m2 ?_ | refine wC hc ?_ | refine rg 1 3 ?_ | refine rg 2 9 ?_ | refine wS ?_ ?_ <;> intro _ | refine finG ?_)
  rfl
theorem rational_Sign (r : R3) (hr : RatOk r 10000000) : Ret Tryz.prog 38 [rD r] (· = .int .i64 (rv r).num.sign) := by
  have tr := rational_value r (hr.up (by decide))
  have or := okQ_rv hr (by decide)
  generalize rv r = x at *
  have hs := integer_SignZ x.num (by have := or.1; omega)
  refine ret_of_awp tab Tryz.func38 rfl rfl (Nat.le_of_ble_eq_true rfl) (fun w0 F0 => ?_)
  repeat' (first | refine wG ?_ | refine wC tr ?_ | refine wC hs ?_ | refine wS ?_ ?_ <;> intro _ | refine finG ?_)
  rfl
theorem natural_copyD (d : Nat) (h : (dL d).length < 100000000) : Ret Tryz.prog 140 [u32s (dL d), u32s []] (· = u32s (dL d)) := by
  unfold dL at *
  split
  · have := natural_AddN 0 0 (by rw [limbs_zero]; simp) (by rw [limbs_zero]; simp)
    rw [Nat.add_zero, limbs_zero] at this
    exact this
  · rename_i h1
    rw [if_neg h1] at h
    have := natural_AddN d 0 (by omega) (by rw [limbs_zero]; simp)
    rw [Nat.add_zero, limbs_zero] at this
    exact this
theorem rational_Neg (r : R3) (hr : RatOk r 10000000) : Ret Tryz.prog 92 [rD r] (· = rD (rq (-rv r))) := by
  have tr := rational_value r (hr.up (by decide))
  have or := okQ_rv hr (by decide)
  generalize rv r = x at *
  have hs := integer_NegZ x.num (by have := or.1; omega)
  have hd := natural_copyD x.den (by have := or.dl; omega)
  have e : rq (-x) = (decide (-x.num < 0), limbs (-x.num).natAbs, dL x.den) := rfl
  rw [e]
  refine ret_of_awp tab Tryz.func92 rfl rfl (Nat.le_of_ble_eq_true rfl) (fun w0 F0 => ?_)
  repeat' (first | refine wG ?_ | refine wC tr ?_ | refine wC hs ?_ | refine wC hd ?_ | refine rg 2 5 ?_ | refine wS ?_ ?_ <;> intro _ | refine finG ?_)
  rfl
theorem rational_Add (r t : R3) (hr : RatOk r 10000000) (ht : RatOk t 10000000) : Ret Tryz.prog 44 [rD r, rD t] (· = rD (rq (rv r + rv t))) := by
  have tr := rational_value r (hr.up (by decide))
  have tk := rational_value t (ht.up (by decide))
  have or := okQ_rv hr (by decide)
  have ot := okQ_rv ht (by decide)
  generalize rv r = x at *
  generalize rv t = y at *
  have dx := rational_den x (or.mono (by decide))
  have dy := rational_den y (ot.mono (by decide))
  have nx := dL_nil x.den_nz
  have ny := dL_nil y.den_nz
  obtain ⟨x1, x2⟩ := or
  obtain ⟨y1, y2⟩ := ot
  by_cases hh : x.den = 1 ∧ y.den = 1
  · have a0 := integer_AddZ x.num y.num (by omega) (by omega)
    have e : rq (x + y) = (decide (x.num + y.num < 0), limbs (x.num + y.num).natAbs, []) := by
      have hx : x = (x.num : Rat) := int_of_den hh.1
      have hy : y = (y.num : Rat) := int_of_den hh.2
      have hs : x + y = ((x.num + y.num : Int) : Rat) := by
        conv => lhs; rw [hx, hy]
        rw [Rat.intCast_add]
      rw [hs]; rfl
    have ex : rq x = (decide (x.num < 0), limbs x.num.natAbs, []) := by rw [rq, hh.1]; rfl
    have ey : rq y = (decide (y.num < 0), limbs y.num.natAbs, []) := by rw [rq, hh.2]; rfl
    rw [ex] at tr
    rw [ey] at tk
    rw [e]
    refine ret_of_awp tab Tryz.func44 rfl rfl (Nat.le_of_ble_eq_true rfl) (fun w0 F0 => ?_)
    repeat' (first | refine wG ?_ | refine wC tr ?_ | refine wC tk ?_ | refine wC a0 ?_ | refine rg 1 3 ?_ | refine rg 4 14 ?_ | refine wS ?_ ?_ <;> intro _ | (show retPost _ _ _ _ _; first | refine finF true rfl rfl sc ?_ | refine finF false rfl rfl sc ?_ | refine finC false rfl rfl sc sc ?_ | refine finN rfl rfl sc ?_ | refine finL true rfl rfl sc rfl (LeR.cons rfl leL LeR.nil) ?_ | refine finA true rfl rfl sc ?_ | refine finA false rfl rfl sc ?_ | refine finE true rfl rfl sc ?_ | refine finE false rfl rfl sc ?_))
    exact leL
  · have m1 := rational_times x.num y.den (by omega) (by omega)
    have m2 := rational_times y.num x.den (by omega) (by omega)
    have m3 := natural_MulN x.den y.den (by omega) (by omega)
    have l1 := ln_mul x.num.natAbs y.den
    have l2 := ln_mul y.num.natAbs x.den
    have l3 := ln_mul x.den y.den
    simp only [ln] at l1 l2 l3
    have e1 : (x.num * (y.den : Int)).natAbs = x.num.natAbs * y.den := by rw [Int.natAbs_mul, Int.natAbs_natCast]
    have e2 : (y.num * (x.den : Int)).natAbs = y.num.natAbs * x.den := by rw [Int.natAbs_mul, Int.natAbs_natCast]
    have a1 := integer_AddZ (x.num * y.den) (y.num * x.den) (by rw [e1]; omega) (by rw [e2]; omega)
    have l4 := ln_mono (Int.natAbs_add_le (x.num * y.den) (y.num * x.den))
    have l5 := ln_add (x.num * (y.den : Int)).natAbs (y.num * (x.den : Int)).natAbs
    simp only [ln] at l4 l5
    rw [e1, e2] at l4 l5
    have o := rational_lowest (x.num * y.den + y.num * x.den) (x.den * y.den) (Nat.mul_ne_zero x.den_nz y.den_nz) (by omega) (by omega)
    rw [show Rat.divInt (x.num * y.den + y.num * x.den) ((x.den * y.den : Nat) : Int) = x + y by rw [Rat.add_def', ← Rat.divInt_ofNat]] at o
    have hl : (rq x).2.2.length ≠ 0 ∨ (rq y).2.2.length ≠ 0 := by show (dL x.den).length ≠ 0 ∨ (dL y.den).length ≠ 0; rw [ne_eq, nx, ne_eq, ny]; omega
    clear l1 l2 l3 l4 l5 e1 e2
    refine ret_of_awp tab Tryz.func44 rfl rfl (Nat.le_of_ble_eq_true rfl) (fun w0 F0 => ?_)
    repeat' (first | refine wG ?_ | refine wC tr ?_ | refine wC tk ?_ | refine wC dx ?_ | refine wC dy ?_ | refine wC m1 ?_ | refine wC m2 ?_ | refine wC m3 ?_ | refine wC a1 ?_ | refine wC o ?_ | refine rg 1 3 ?_ | refine rg 4 14 ?_ | refine wS ?_ ?_ <;> intro _ | refine finG ?_)
    all_goals rfl
theorem rational_Mul (r t : R3) (hr : RatOk r 10000000) (ht : RatOk t 10000000) : Ret Tryz.prog 45 [rD r, rD t] (· = rD (rq (rv r * rv t))) := by
  have tr := rational_value r (hr.up (by decide))
  have tk := rational_value t (ht.up (by decide))
  have or := okQ_rv hr (by decide)
  have ot := okQ_rv ht (by decide)
  generalize rv r = x at *
  generalize rv t = y at *
  have dx := rational_den x (or.mono (by decide))
  have dy := rational_den y (ot.mono (by decide))
  have nx := dL_nil x.den_nz
  have ny := dL_nil y.den_nz
  obtain ⟨x1, x2⟩ := or
  obtain ⟨y1, y2⟩ := ot
  have a0 := integer_MulZ x.num y.num (by omega) (by omega)
  by_cases hh : x.den = 1 ∧ y.den = 1
  · have e : rq (x * y) = (decide (x.num * y.num < 0), limbs (x.num * y.num).natAbs, []) := by
      have hx : x = (x.num : Rat) := int_of_den hh.1
      have hy : y = (y.num : Rat) := int_of_den hh.2
      have hs : x * y = ((x.num * y.num : Int) : Rat) := by
        conv => lhs; rw [hx, hy]
        rw [Rat.intCast_mul]
      rw [hs]; rfl
    have ex : rq x = (decide (x.num < 0), limbs x.num.natAbs, []) := by rw [rq, hh.1]; rfl
    have ey : rq y = (decide (y.num < 0), limbs y.num.natAbs, []) := by rw [rq, hh.2]; rfl
    rw [ex] at tr
    rw [ey] at tk
    rw [e]
    refine ret_of_awp tab Tryz.func45 rfl rfl (Nat.le_of_ble_eq_true rfl) (fun w0 F0 => ?_)
    repeat' (first | refine wG ?_ | refine wC tr ?_ | refine wC tk ?_ | refine wC a0 ?_ | refine rg 1 3 ?_ | refine rg 4 8 ?_ | refine wS ?_ ?_ <;> intro _ | (show retPost _ _ _ _ _; first | refine finF true rfl rfl sc ?_ | refine finF false rfl rfl sc ?_ | refine finC false rfl rfl sc sc ?_ | refine finN rfl rfl sc ?_ | refine finL true rfl rfl sc rfl (LeR.cons rfl leL LeR.nil) ?_ | refine finA true rfl rfl sc ?_ | refine finA false rfl rfl sc ?_ | refine finE true rfl rfl sc ?_ | refine finE false rfl rfl sc ?_))
    exact leL
  · have m3 := natural_MulN x.den y.den (by omega) (by omega)
    have l1 := ln_mul x.num.natAbs y.num.natAbs
    have l3 := ln_mul x.den y.den
    simp only [ln] at l1 l3
    have e1 : (x.num * y.num).natAbs = x.num.natAbs * y.num.natAbs := Int.natAbs_mul _ _
    have o := rational_lowest (x.num * y.num) (x.den * y.den) (Nat.mul_ne_zero x.den_nz y.den_nz) (by rw [e1]; omega) (by omega)
    rw [show Rat.divInt (x.num * y.num) ((x.den * y.den : Nat) : Int) = x * y by rw [Rat.mul_def', ← Rat.divInt_ofNat]] at o
    have hl : (rq x).2.2.length ≠ 0 ∨ (rq y).2.2.length ≠ 0 := by show (dL x.den).length ≠ 0 ∨ (dL y.den).length ≠ 0; rw [ne_eq, nx, ne_eq, ny]; omega
    clear l1 l3 e1
    refine ret_of_awp tab Tryz.func45 rfl rfl (Nat.le_of_ble_eq_true rfl) (fun w0 F0 => ?_)
    repeat' (first | refine wG ?_ | refine wC tr ?_ | refine wC tk ?_ | refine wC dx ?_ | refine wC dy ?_ | refine wC m3 ?_ | refine wC a0 ?_ | refine wC o ?_ | refine rg 1 3 ?_ | refine rg 4 8 ?_ | refine wS ?_ ?_ <;> intro _ | refine finG ?_)
    all_goals rfl
theorem rational_Sub (r t : R3) (hr : RatOk r 10000000) (ht : RatOk t 10000000) : Ret Tryz.prog 43 [rD r, rD t] (· = rD (rq (rv r - rv t))) := by
  have hn := rational_Neg t ht
  have or := okQ_rv ht (by decide)
  have on : okQ 10000000 (-rv t) := ⟨by rw [Rat.neg_num, Int.natAbs_neg]; exact or.1, by rw [Rat.neg_den]; exact or.2⟩
  have ha := rational_Add r (rq (-rv t)) hr (ok_rq on)
  rw [rv_rq, ← Rat.sub_eq_add_neg] at ha
  refine ret_of_awp tab Tryz.func43 rfl rfl (Nat.le_of_ble_eq_true rfl) (fun w0 F0 => ?_)
  repeat' (first | refine wG ?_ | refine wC hn ?_ | refine wC ha ?_ | refine rg 1 3 ?_ | refine wS ?_ ?_ <;> intro _ | refine finG ?_)
  rfl
theorem rational_Make (a b : Int) (ha : (limbs a.natAbs).length < 100000000) (hb : (limbs b.natAbs).length < 100000000) : Ret Tryz.prog 89 [zD a, zD b] (· = if b = 0 then .tup [rD r0, .int .i64 5] else .tup [rD (rq (Rat.divInt a b)), .int .i64 0]) := by
  have hs := integer_SignZ b (by omega)
  by_cases h0 : b = 0
  · rw [if_pos h0]
    rw [h0] at hs ⊢
    have : (0 : Int).sign = 0 := rfl
    rw [this] at hs
    refine ret_of_awp tab Tryz.func89 rfl rfl (Nat.le_of_ble_eq_true rfl) (fun w0 F0 => ?_)
    repeat' (first | refine wG ?_ | refine wC hs ?_ | refine rg 5 5 ?_ | refine wS ?_ ?_ <;> intro _ | refine finTG ?_)
    exact leT
  · rw [if_neg h0]
    have hab := divInt_abs a b
    by_cases hn : b < 0
    · rw [if_pos hn] at hab
      rw [Int.sign_eq_neg_one_of_neg hn] at hs
      have hne := integer_NegZ a (by omega)
      have had := integer_AddZ (-a) 0 (by rw [Int.natAbs_neg]; omega) (by show (limbs 0).length < _; rw [limbs_zero]; simp)
      rw [zD_zero, Int.add_zero] at had
      have hlo := rational_lowest (-a) b.natAbs (by omega) (by rw [Int.natAbs_neg]; exact ha) hb
      rw [hab] at hlo
      refine ret_of_awp tab Tryz.func89 rfl rfl (Nat.le_of_ble_eq_true rfl) (fun w0 F0 => ?_)
      repeat' (first | refine wG ?_ | refine wC hs ?_ | refine wC hne ?_ | refine wC had ?_ | refine wC hlo ?_ | refine rg 5 5 ?_ | refine wS ?_ ?_ <;> intro _ | refine finTG ?_)
      exact leT
    · rw [if_neg hn] at hab
      rw [Int.sign_eq_one_of_pos (by omega)] at hs
      have had := integer_AddZ a 0 (by omega) (by show (limbs 0).length < _; rw [limbs_zero]; simp)
      rw [zD_zero, Int.add_zero] at had
      have hlo := rational_lowest a b.natAbs (by omega) ha hb
      rw [hab] at hlo
      refine ret_of_awp tab Tryz.func89 rfl rfl (Nat.le_of_ble_eq_true rfl) (fun w0 F0 => ?_)
      repeat' (first | refine wG ?_ | refine wC hs ?_ | refine wC had ?_ | refine wC hlo ?_ | refine rg 5 5 ?_ | refine wS ?_ ?_ <;> intro _ | refine finTG ?_)
      exact leT
theorem rational_Div (r t : R3) (hr : RatOk r 10000000) (ht : RatOk t 10000000) : Ret Tryz.prog 42 [rD r, rD t] (· = if rv t = 0 then .tup [rD r0, .int .i64 5] else .tup [rD (rq (rv r / rv t)), .int .i64 0]) := by
  have tr := rational_value r (hr.up (by decide))
  have tk := rational_value t (ht.up (by decide))
  have or := okQ_rv hr (by decide)
  have ot := okQ_rv ht (by decide)
  generalize rv r = x at *
  generalize rv t = y at *
  have dx := rational_den x (or.mono (by decide))
  have dy := rational_den y (ot.mono (by decide))
  obtain ⟨x1, x2⟩ := or
  obtain ⟨y1, y2⟩ := ot
  have m1 := rational_times x.num y.den (by omega) (by omega)
  have m2 := rational_times y.num x.den (by omega) (by omega)
  have l1 := ln_mul x.num.natAbs y.den
  have l2 := ln_mul y.num.natAbs x.den
  simp only [ln] at l1 l2
  have e1 : (x.num * (y.den : Int)).natAbs = x.num.natAbs * y.den := by rw [Int.natAbs_mul, Int.natAbs_natCast]
  have e2 : (y.num * (x.den : Int)).natAbs = y.num.natAbs * x.den := by rw [Int.natAbs_mul, Int.natAbs_natCast]
  have hm := rational_Make (x.num * y.den) (y.num * x.den) (by rw [e1]; omega) (by rw [e2]; omega)
  have hd : (x.den : Int) ≠ 0 := by have := x.den_nz; omega
  have h0 : y.num * x.den = 0 ↔ y = 0 := by
    rw [Int.mul_eq_zero, Rat.num_eq_zero]; exact ⟨fun h => h.elim id fun h => absurd h hd, .inl⟩
  by_cases hy : y = 0
  · rw [if_pos hy]
    rw [if_pos (h0.2 hy)] at hm
    refine ret_of_awp tab Tryz.func42 rfl rfl (Nat.le_of_ble_eq_true rfl) (fun w0 F0 => ?_)
    repeat' (first | refine wG ?_ | refine wC tr ?_ | refine wC tk ?_ | refine wC dx ?_ | refine wC dy ?_ | refine wC m1 ?_ | refine wC m2 ?_ | refine wC hm ?_ | refine rg 1 3 ?_ | refine rg 2 13 ?_ | refine wS ?_ ?_ <;> intro _ | refine finTG ?_)
    exact leT
  · rw [if_neg hy]
    rw [if_neg (mt h0.1 hy)] at hm
    rw [divInt_div] at hm
    refine ret_of_awp tab Tryz.func42 rfl rfl (Nat.le_of_ble_eq_true rfl) (fun w0 F0 => ?_)
    repeat' (first | refine wG ?_ | refine wC tr ?_ | refine wC tk ?_ | refine wC dx ?_ | refine wC dy ?_ | refine wC m1 ?_ | refine wC m2 ?_ | refine wC hm ?_ | refine rg 1 3 ?_ | refine rg 2 13 ?_ | refine wS ?_ ?_ <;> intro _ | refine finTG ?_)
    exact leT
end Go.Proofs.YtejigedigmagdaaGreat

/-
  Rational numbers: sizes of results, order, whole parts. Conditions: as each says.
-/
namespace Go.Vw
theorem divInt_le (a b : Int) (hb : b ≠ 0) : (Rat.divInt a b).num.natAbs ≤ a.natAbs ∧ (Rat.divInt a b).den ≤ b.natAbs := by
  rw [Rat.num_divInt, Rat.den_divInt, if_neg hb]
  refine ⟨?_, Nat.div_le_self _ _⟩
  have hg : 0 < Int.gcd b a := Int.gcd_pos_of_ne_zero_left _ hb
  have hd : ((Int.gcd b a : Nat) : Int) ∣ b.sign * a := Int.dvd_trans (Int.gcd_dvd_right b a) (Int.dvd_mul_left _ _)
  rw [Int.natAbs_ediv_of_dvd hd, Int.natAbs_mul]
  have h1 : b.sign.natAbs = 1 := by rw [Int.natAbs_sign, if_neg hb]
  rw [h1, Nat.one_mul]
  exact Nat.div_le_self _ _
theorem okQ_divInt {a b : Int} {k : Nat} (hb : b ≠ 0) (ha : (limbs a.natAbs).length < k) (hb2 : (limbs b.natAbs).length < k) : okQ k (Rat.divInt a b) :=
  ⟨Nat.lt_of_le_of_lt (limbs_len_mono (divInt_le a b hb).1) ha, Nat.lt_of_le_of_lt (limbs_len_mono (divInt_le a b hb).2) hb2⟩
theorem den_ne (x : Rat) : (x.den : Int) ≠ 0 := by have := x.den_nz; omega
theorem add_divInt (x y : Rat) : x + y = Rat.divInt (x.num * y.den + y.num * x.den) ((x.den * y.den : Nat) : Int) := by rw [Rat.add_def', ← Rat.divInt_ofNat]
theorem mul_divInt (x y : Rat) : x * y = Rat.divInt (x.num * y.num) ((x.den * y.den : Nat) : Int) := by rw [Rat.mul_def', ← Rat.divInt_ofNat]
theorem okQ.add {x y : Rat} {k l : Nat} (hx : okQ k x) (hy : okQ l y) : okQ (k + l) (x + y) := by
  rw [add_divInt]
  have l1 := ln_mul x.num.natAbs y.den
  have l2 := ln_mul y.num.natAbs x.den
  have l3 := ln_mul x.den y.den
  have e1 : (x.num * (y.den : Int)).natAbs = x.num.natAbs * y.den := by rw [Int.natAbs_mul, Int.natAbs_natCast]
  have e2 : (y.num * (x.den : Int)).natAbs = y.num.natAbs * x.den := by rw [Int.natAbs_mul, Int.natAbs_natCast]
  have l4 := ln_mono (Int.natAbs_add_le (x.num * y.den) (y.num * x.den))
  obtain ⟨x1, x2⟩ := hx
  obtain ⟨y1, y2⟩ := hy
  simp only [ln] at l1 l2 l3 l4
  have l5 := ln_add1 (m := (x.num * (y.den : Int)).natAbs) (n := (y.num * (x.den : Int)).natAbs) (k := k + l - 2) (by simp only [ln]; rw [e1]; omega) (by simp only [ln]; rw [e2]; omega)
  simp only [ln] at l5
  refine okQ_divInt (by have := Nat.mul_ne_zero x.den_nz y.den_nz; omega) (by omega) (by rw [Int.natAbs_natCast]; omega)
theorem okQ.mul {x y : Rat} {k l : Nat} (hx : okQ k x) (hy : okQ l y) : okQ (k + l) (x * y) := by
  rw [mul_divInt]
  have l1 := ln_mul x.num.natAbs y.num.natAbs
  have l3 := ln_mul x.den y.den
  have e1 : (x.num * y.num).natAbs = x.num.natAbs * y.num.natAbs := Int.natAbs_mul _ _
  obtain ⟨x1, x2⟩ := hx
  obtain ⟨y1, y2⟩ := hy
  simp only [ln] at l1 l3
  refine okQ_divInt (by have := Nat.mul_ne_zero x.den_nz y.den_nz; omega) (by rw [e1]; omega) (by rw [Int.natAbs_natCast]; omega)
theorem okQ.neg {x : Rat} {k : Nat} (hx : okQ k x) : okQ k (-x) := ⟨by rw [Rat.neg_num, Int.natAbs_neg]; exact hx.1, by rw [Rat.neg_den]; exact hx.2⟩
theorem okQ.sub {x y : Rat} {k l : Nat} (hx : okQ k x) (hy : okQ l y) : okQ (k + l) (x - y) := by rw [Rat.sub_eq_add_neg]; exact hx.add hy.neg
theorem okQ.div {x y : Rat} {k l : Nat} (hx : okQ k x) (hy : okQ l y) (h0 : y ≠ 0) : okQ (k + l) (x / y) := by
  rw [← divInt_div]
  have l1 := ln_mul x.num.natAbs y.den
  have l2 := ln_mul y.num.natAbs x.den
  have e1 : (x.num * (y.den : Int)).natAbs = x.num.natAbs * y.den := by rw [Int.natAbs_mul, Int.natAbs_natCast]
  have e2 : (y.num * (x.den : Int)).natAbs = y.num.natAbs * x.den := by rw [Int.natAbs_mul, Int.natAbs_natCast]
  obtain ⟨x1, x2⟩ := hx
  obtain ⟨y1, y2⟩ := hy
  simp only [ln] at l1 l2
  refine okQ_divInt (Int.mul_ne_zero (mt Rat.num_eq_zero.1 h0) (den_ne x)) (by rw [e1]; omega) (by rw [e2]; omega)
theorem num_lt0 {q : Rat} : q.num < 0 ↔ q < 0 := by
  rw [← Rat.not_le, ← Rat.num_nonneg]; omega
theorem num_gt0 {q : Rat} : 0 < q.num ↔ 0 < q := by
  have h1 := Rat.num_nonneg (q := q)
  have h2 := Rat.num_eq_zero (q := q)
  constructor
  · intro h
    have := h1.1 (by omega)
    have : q ≠ 0 := fun e => by have := h2.2 e; omega
    grind
  · intro h
    have := h1.2 (by grind)
    have : q.num ≠ 0 := fun e => by have := h2.1 e; grind
    omega
theorem sign_sub (x y : Rat) : (x - y).num.sign = cmpQ x y := by
  unfold cmpQ
  by_cases h : x < y
  · rw [if_pos h]
    refine Int.sign_eq_neg_one_of_neg ?_
    have : x - y < 0 := by grind
    exact num_lt0.2 this
  · rw [if_neg h]
    by_cases h2 : y < x
    · rw [if_pos h2]
      refine Int.sign_eq_one_of_pos ?_
      have : 0 < x - y := by grind
      exact num_gt0.2 this
    · rw [if_neg h2]
      have : x - y = 0 := by grind
      rw [this]; rfl
theorem cmpQ_neg (x y : Rat) : cmpQ x y < 0 ↔ x < y := by
  unfold cmpQ
  constructor
  · intro h; split at h
    · assumption
    · split at h <;> omega
  · intro h; rw [if_pos h]; decide
theorem cmpQ_pos (x y : Rat) : 0 < cmpQ x y ↔ y < x := by
  unfold cmpQ
  constructor
  · intro h; split at h
    · omega
    · split at h
      · assumption
      · omega
  · intro h; rw [if_neg (by grind), if_pos h]; decide
theorem cmpQ_range (x y : Rat) : -1 ≤ cmpQ x y ∧ cmpQ x y ≤ 1 := by unfold cmpQ; split <;> (try split) <;> omega
end Go.Vw

set_option maxHeartbeats 8000000
namespace Go.Proofs.YtejigedigmagdaaGreat
open Go.Vw
attribute [local irreducible] awp awpL awpR

theorem ref03_Sub (r t : R3) (hr : RatOk r 10000000) (ht : RatOk t 10000000) : Ret Tryz.prog 30 [rD r, rD t] (· = rD (rq (rv r - rv t))) := by
  have hn := ref03_Neg t ht
  have or := okQ_rv ht (by decide)
  have ha := ref03_Add r (rq (-rv t)) hr (ok_rq or.neg)
  rw [rv_rq, ← Rat.sub_eq_add_neg] at ha
  refine ret_of_awp tab Tryz.func30 rfl rfl (Nat.le_of_ble_eq_true rfl) (fun w0 F0 => ?_)
  repeat' (first | refine wG ?_ | refine wC hn ?_ | refine wC ha ?_ | refine rg 1 3 ?_ | refine wS ?_ ?_ <;> intro _ | refine finG ?_)
  rfl
theorem ref03_Compare (r t : R3) (hr : RatOk r 1000000) (ht : RatOk t 1000000) : Ret Tryz.prog 80 [rD r, rD t] (· = .int .i64 (cmpQ (rv r) (rv t))) := by
  have hs := ref03_Sub r t (hr.up (by decide)) (ht.up (by decide))
  have or := okQ_rv hr (by decide)
  have ot := okQ_rv ht (by decide)
  have hg := ref03_SignQ (rv r - rv t) ((or.sub ot).mono (by decide))
  rw [sign_sub] at hg
  refine ret_of_awp tab Tryz.func80 rfl rfl (Nat.le_of_ble_eq_true rfl) (fun w0 F0 => ?_)
  repeat' (first | refine wG ?_ | refine wC hs ?_ | refine wC hg ?_ | refine wS ?_ ?_ <;> intro _ | refine finG ?_)
  rfl
theorem ref03_Less (r t : R3) (hr : RatOk r 1000000) (ht : RatOk t 1000000) : Ret Tryz.prog 29 [rD r, rD t] (· = .bool (decide (rv r < rv t))) := by
  have hs := ref03_Compare r t hr ht
  have hc := cmpQ_neg (rv r) (rv t)
  obtain ⟨c, hcc⟩ : ∃ c, cmpQ (rv r) (rv t) = c := ⟨_, rfl⟩
  rw [hcc] at hs hc
  rw [show decide (rv r < rv t) = decide (c < 0) from decide_eq_decide.2 hc.symm]
  refine ret_of_awp tab Tryz.func29 rfl rfl (Nat.le_of_ble_eq_true rfl) (fun w0 F0 => ?_)
  repeat' (first | refine wG ?_ | refine wC hs ?_ | refine wS ?_ ?_ <;> intro _ | refine finG ?_)
  rfl
theorem ref03_Min (r t : R3) (hr : RatOk r 1000000) (ht : RatOk t 1000000) : Ret Tryz.prog 70 [rD r, rD t] (· = rD (rq (if rv t < rv r then rv t else rv r))) := by
  have hl := ref03_Less t r ht hr
  have h1 := ref03_Take r (hr.up (by decide))
  have h2 := ref03_Take t (ht.up (by decide))
  by_cases h : rv t < rv r
  · rw [decide_eq_true h] at hl
    rw [if_pos h]
    refine ret_of_awp tab Tryz.func70 rfl rfl (Nat.le_of_ble_eq_true rfl) (fun w0 F0 => ?_)
    repeat' (first | refine wG ?_ | refine wC hl ?_ | refine wC h2 ?_ | refine wS ?_ ?_ <;> intro _ | refine finG ?_)
    rfl
  · rw [decide_eq_false h] at hl
    rw [if_neg h]
    refine ret_of_awp tab Tryz.func70 rfl rfl (Nat.le_of_ble_eq_true rfl) (fun w0 F0 => ?_)
    repeat' (first | refine wG ?_ | refine wC hl ?_ | refine wC h1 ?_ | refine wS ?_ ?_ <;> intro _ | refine finG ?_)
    rfl
theorem ref03_Max (r t : R3) (hr : RatOk r 1000000) (ht : RatOk t 1000000) : Ret Tryz.prog 69 [rD r, rD t] (· = rD (rq (if rv r < rv t then rv t else rv r))) := by
  have hl := ref03_Less r t hr ht
  have h1 := ref03_Take r (hr.up (by decide))
  have h2 := ref03_Take t (ht.up (by decide))
  by_cases h : rv r < rv t
  · rw [decide_eq_true h] at hl
    rw [if_pos h]
    refine ret_of_awp tab Tryz.func69 rfl rfl (Nat.le_of_ble_eq_true rfl) (fun w0 F0 => ?_)
    repeat' (first | refine wG ?_ | refine wC hl ?_ | refine wC h2 ?_ | refine wS ?_ ?_ <;> intro _ | refine finG ?_)
    rfl
  · rw [decide_eq_false h] at hl
    rw [if_neg h]
    refine ret_of_awp tab Tryz.func69 rfl rfl (Nat.le_of_ble_eq_true rfl) (fun w0 F0 => ?_)
    repeat' (first | refine wG ?_ | refine wC hl ?_ | refine wC h1 ?_ | refine wS ?_ ?_ <;> intro _ | refine finG ?_)
    rfl
end Go.Proofs.YtejigedigmagdaaGreat

/-
  Matrices of rational numbers: the elimination as the specification has it, where each pivot stands in its place. Conditions: as each says.
-/
namespace Go.Vw
@[reducible] def qC (q : Rat) : List D := rC (rq q)
@[reducible] def qD (q : Rat) : D := rD (rq q)
@[reducible] def qsD (l : List Rat) : D := .sl 3 qC 0 l
@[reducible] def eQ (l : List Rat) : List D := [qsD l]
@[reducible] def qssD (l : List (List Rat)) : D := .sl 1 eQ [] l

def timesQ (l : List Rat) (c : Rat) : List Rat := l.map (· * c)
def plusQ (a b : List Rat) : List Rat := List.zipWith (· + ·) a b
def at2 (m : List (List Rat)) (i j : Nat) : Rat := (m.getD i []).getD j 0
def scaleQ (m : List (List Rat)) (j : Nat) : List (List Rat) := m.set j (timesQ (m.getD j []) (1 / at2 m j j))
def elimRow (m : List (List Rat)) (j i : Nat) : List Rat := if i = j then m.getD j [] else plusQ (m.getD i []) (timesQ (m.getD j []) (-(at2 m i j)))
def elimI (m : List (List Rat)) (j i : Nat) : List (List Rat) := (List.range i).map (elimRow m j) ++ m.drop i
def redQ (m : List (List Rat)) (j : Nat) : List (List Rat) := elimI (scaleQ m j) j m.length

def smallQ (q : Rat) : Prop := q.num.natAbs < 18446744073709551616 ∧ q.den < 18446744073709551616
theorem limbs_len2 {n : Nat} (h : n < 18446744073709551616) : (limbs n).length < 1000 := Nat.lt_of_le_of_lt (length_limbs_le (n := n) (k := 2) (by rw [B_val]; exact h)) (by decide)
theorem limbs_len4 {n : Nat} (h : n < 18446744073709551616 * 18446744073709551616) : (limbs n).length < 1000 := Nat.lt_of_le_of_lt (length_limbs_le (n := n) (k := 4) (by rw [B_val]; exact h)) (by decide)
theorem smallQ.ok {q : Rat} (h : smallQ q) : okQ 10000000 q := ⟨Nat.lt_trans (limbs_len2 h.1) (by decide), Nat.lt_trans (limbs_len2 h.2) (by decide)⟩
theorem smallQ.neg {q : Rat} (h : smallQ q) : smallQ (-q) := by unfold smallQ at *; rw [show (-q).num = -q.num from rfl, show (-q).den = q.den from rfl, Int.natAbs_neg]; exact h
theorem smallQ.one : smallQ 1 := by unfold smallQ; decide
theorem num_mul_le (x y : Rat) : (x * y).num.natAbs ≤ x.num.natAbs * y.num.natAbs ∧ (x * y).den ≤ x.den * y.den := by
  rw [Rat.num_mul, Rat.den_mul, ← Int.natAbs_mul]
  refine ⟨?_, Nat.div_le_self _ _⟩
  have hd : ((((x.num * y.num).natAbs.gcd (x.den * y.den) : Nat)) : Int) ∣ x.num * y.num := Int.ofNat_dvd_left.2 (Nat.gcd_dvd_left _ _)
  rw [Int.natAbs_ediv_of_dvd hd]
  exact Nat.div_le_self _ _
theorem smallQ.mul {x y : Rat} (hx : smallQ x) (hy : smallQ y) : okQ 10000000 (x * y) := by
  obtain ⟨h1, h2⟩ := num_mul_le x y
  exact ⟨Nat.lt_trans (limbs_len4 (Nat.lt_of_le_of_lt h1 (Nat.mul_lt_mul'' hx.1 hy.1))) (by decide), Nat.lt_trans (limbs_len4 (Nat.lt_of_le_of_lt h2 (Nat.mul_lt_mul'' hx.2 hy.2))) (by decide)⟩
def goodB (n : Nat) (m : List (List Rat)) : Bool := Nat.beq m.length n && m.all fun r => Nat.beq r.length n && r.all fun q => Nat.blt q.num.natAbs 18446744073709551616 && Nat.blt q.den 18446744073709551616
structure GoodM (n : Nat) (m : List (List Rat)) : Prop where
  len : m.length = n
  row : ∀ i, i < n → (m.getD i []).length = n
  small : ∀ i, i < n → ∀ q ∈ m.getD i [], smallQ q
theorem GoodM.at2 {n : Nat} {m : List (List Rat)} (h : GoodM n m) {i j : Nat} (hi : i < n) (hj : j < n) : smallQ (at2 m i j) := by
  refine h.small i hi _ ?_
  unfold Vw.at2
  have hr := h.row i hi
  generalize m.getD i [] = r at *
  rw [List.getD_eq_getElem?_getD, List.getElem?_eq_getElem (by omega)]; exact List.getElem_mem _
def mAt (m : List (List Rat)) : Nat → List (List Rat)
  | 0 => m
  | j + 1 => redQ (mAt m j) j
def facAt (m : List (List Rat)) : Nat → Rat
  | 0 => 1
  | j + 1 => facAt m j * at2 (mAt m j) j j
structure RunOk (n : Nat) (m : List (List Rat)) : Prop where
  good : ∀ j, j ≤ n → GoodM n (mAt m j)
  piv : ∀ j, j < n → at2 (mAt m j) j j ≠ 0
  fac : ∀ j, j < n → smallQ (facAt m j)
  scaled : ∀ j, j < n → GoodM n (scaleQ (mAt m j) j)
end Go.Vw

/-
  Intervals of rational numbers: what the operations are, in plain terms. Conditions: as each says.
-/
namespace Go.Vw
abbrev I2 := Rat × Rat
@[reducible] def iD (a b : R3) : D := .agg [.bool a.1, u32s a.2.1, u32s a.2.2, .bool b.1, u32s b.2.1, u32s b.2.2]
@[reducible] def iQ (i : I2) : D := iD (rq i.1) (rq i.2)
def takeI (x y : Rat) : I2 := if y < x then (0, 0) else (x, y)
def okI (k : Nat) (i : I2) : Prop := okQ k i.1 ∧ okQ k i.2
theorem okQ_zero {k : Nat} (h : 1 < k) : okQ k 0 := ⟨by show (limbs 0).length < k; rw [limbs_zero]; simp; omega, by show (limbs 1).length < k; rw [limbs_one]; simpa using h⟩
theorem takeI_ok {k : Nat} {x y : Rat} (hx : okQ k x) (hy : okQ k y) (h : 1 < k) : okI k (takeI x y) := by
  unfold takeI; split
  · exact ⟨okQ_zero h, okQ_zero h⟩
  · exact ⟨hx, hy⟩
theorem takeI_le (x y : Rat) : (takeI x y).1 ≤ (takeI x y).2 := by
  unfold takeI; split
  · exact Rat.le_refl
  · rename_i h; exact Rat.not_lt.1 h
theorem takeI_of {x y : Rat} (h : x ≤ y) : takeI x y = (x, y) := by
  unfold takeI; rw [if_neg (Rat.not_lt.2 h)]
def containsI (i : I2) (v : Rat) : Bool := decide (i.1 ≤ v) && decide (v ≤ i.2)
def withinI (a b : I2) : Bool := decide (b.1 ≤ a.1) && decide (a.2 ≤ b.2)
def minQ (x y : Rat) : Rat := if y < x then y else x
def maxQ (x y : Rat) : Rat := if x < y then y else x
def hullL (x : Rat) (l : List Rat) : I2 := (l.foldl minQ x, l.foldl maxQ x)
def hullI (a b : I2) : I2 := hullL a.1 [a.2, b.1, b.2]
theorem okQ_minQ {k : Nat} {x y : Rat} (hx : okQ k x) (hy : okQ k y) : okQ k (minQ x y) := by unfold minQ; split <;> assumption
theorem okQ_maxQ {k : Nat} {x y : Rat} (hx : okQ k x) (hy : okQ k y) : okQ k (maxQ x y) := by unfold maxQ; split <;> assumption
theorem hullL_ok {k : Nat} : ∀ (l : List Rat) (m n : Rat), okQ k m → okQ k n → (∀ q ∈ l, okQ k q) → okQ k (l.foldl minQ m) ∧ okQ k (l.foldl maxQ n)
  | [], m, n, hm, hn, _ => ⟨hm, hn⟩
  | x :: l, m, n, hm, hn, h => hullL_ok l (minQ m x) (maxQ n x) (okQ_minQ hm (h x (by simp))) (okQ_maxQ hn (h x (by simp))) fun q hq => h q (by simp [hq])
theorem foldl_take {α : Type} (f : α → Rat → α) (a : α) (l : List Rat) {i : Nat} (h : i < l.length) : (l.take (i + 1)).foldl f a = f ((l.take i).foldl f a) (l.getD i 0) := by
  rw [List.take_add_one, List.foldl_append]
  simp [List.getD_eq_getElem?_getD, h]
theorem take_ok {k : Nat} {l : List Rat} {x : Rat} (hx : okQ k x) (h : ∀ q ∈ l, okQ k q) (i : Nat) : okQ k ((l.take i).foldl minQ x) ∧ okQ k ((l.take i).foldl maxQ x) := hullL_ok _ x x hx hx fun q hq => h q (List.mem_of_mem_take hq)
theorem getD_ok {k : Nat} {l : List Rat} (h : ∀ q ∈ l, okQ k q) {i : Nat} (hi : i < l.length) : okQ k (l.getD i 0) := by
  have : l.getD i 0 = l[i] := by simp [List.getD_eq_getElem?_getD, hi]
  rw [this]; exact h _ (List.getElem_mem hi)
end Go.Vw

set_option maxHeartbeats 8000000
namespace Go.Proofs.YtejigedigmagdaaGreat
open Go.Vw
attribute [local irreducible] awp awpL awpR

theorem rational_CompareQ (x y : Rat) (hx : okQ 10000000 x) (hy : okQ 10000000 y) : Ret Tryz.prog 109 [qD x, qD y] (· = .int .i64 (cmpQ x y)) := by
  have := rational_Compare (rq x) (rq y) (ok_rq hx) (ok_rq hy)
  rw [rv_rq, rv_rq] at this
  exact this
theorem rational_AddQ (x y : Rat) (hx : okQ 10000000 x) (hy : okQ 10000000 y) : Ret Tryz.prog 44 [qD x, qD y] (· = qD (x + y)) := by
  have := rational_Add (rq x) (rq y) (ok_rq hx) (ok_rq hy)
  rw [rv_rq, rv_rq] at this
  exact this
theorem rational_SubQ (x y : Rat) (hx : okQ 10000000 x) (hy : okQ 10000000 y) : Ret Tryz.prog 43 [qD x, qD y] (· = qD (x - y)) := by
  have := rational_Sub (rq x) (rq y) (ok_rq hx) (ok_rq hy)
  rw [rv_rq, rv_rq] at this
  exact this
theorem rational_MulQ (x y : Rat) (hx : okQ 10000000 x) (hy : okQ 10000000 y) : Ret Tryz.prog 45 [qD x, qD y] (· = qD (x * y)) := by
  have := rational_Mul (rq x) (rq y) (ok_rq hx) (ok_rq hy)
  rw [rv_rq, rv_rq] at this
  exact this
theorem rational_DivQ (x y : Rat) (hx : okQ 10000000 x) (hy : okQ 10000000 y) : Ret Tryz.prog 42 [qD x, qD y] (· = if y = 0 then .tup [rD r0, .int .i64 5] else .tup [qD (x / y), .int .i64 0]) := by
  have := rational_Div (rq x) (rq y) (ok_rq hx) (ok_rq hy)
  rw [rv_rq, rv_rq] at this
  exact this
theorem rational_SignQ (x : Rat) (hx : okQ 10000000 x) : Ret Tryz.prog 38 [qD x] (· = .int .i64 x.num.sign) := by
  have := rational_Sign (rq x) (ok_rq hx)
  rw [rv_rq] at this
  exact this
theorem ref03_SubQ (x y : Rat) (hx : okQ 10000000 x) (hy : okQ 10000000 y) : Ret Tryz.prog 30 [qD x, qD y] (· = qD (x - y)) := by
  have := ref03_Sub (rq x) (rq y) (ok_rq hx) (ok_rq hy)
  rw [rv_rq, rv_rq] at this
  exact this
theorem ref03_CompareQ (x y : Rat) (hx : okQ 1000000 x) (hy : okQ 1000000 y) : Ret Tryz.prog 80 [qD x, qD y] (· = .int .i64 (cmpQ x y)) := by
  have := ref03_Compare (rq x) (rq y) (ok_rq hx) (ok_rq hy)
  rw [rv_rq, rv_rq] at this
  exact this
theorem ref03_MaxQ (x y : Rat) (hx : okQ 1000000 x) (hy : okQ 1000000 y) : Ret Tryz.prog 69 [qD x, qD y] (· = qD (maxQ x y)) := by
  have := ref03_Max (rq x) (rq y) (ok_rq hx) (ok_rq hy)
  rw [rv_rq, rv_rq] at this
  exact this
end Go.Proofs.YtejigedigmagdaaGreat

/-
  What the matrices of the codings hold. Conditions: as each says.
-/
namespace Go.Vw
theorem len_small {z : Int} (h : z.natAbs < 4294967296) : (limbs z.natAbs).length ≤ 1 := length_limbs_le (by simpa [B_val] using h)
end Go.Vw
