/-
  Contracts of functions of the program, and the layer that they are walked with: R01 LimbsC Nats N01 NatsB R02 R03 Ints R04 Rats R05 C03 N02 NatsC VS N03 NatsD. Conditions: as each says.
-/
import Derived.Test.YtejigedigmagdaaGreatA04
set_option linter.unnecessarySimpa false
/-
  Contracts of the reference's natural numbers: Valid, trim, limb, Take, compare, Add. Conditions: lengths are bounded.
-/
set_option linter.unusedVariables false
set_option linter.unusedSimpArgs false
set_option maxHeartbeats 8000000
namespace Go.Proofs.YtejigedigmagdaaGreat
open Go.Vw
attribute [local irreducible] awp awpL awpR

theorem ref01_Valid (l : List Nat) (hl : l.length < 10000000000000) : Ret Tryz.prog 159 [u32s l] (· = .bool (valid l)) := by
  refine ret_of_awp tab Tryz.func159 rfl rfl (Nat.le_of_ble_eq_true rfl) (fun w0 F0 => ?_)
  repeat' (first | refine wG ?_ | refine wS ?_ ?_ <;> intro _ | refine finG ?_)
  · rename_i h
    have : l = [] := List.length_eq_zero_iff.1 (by omega)
    subst this; rfl
  · rename_i h
    have hn : l ≠ [] := fun e => h (by simp [e])
    have e : ((l.length : Int) - 1).toNat = l.length - 1 := by omega
    rw [e]
    have hv : valid l = (l.getD (l.length - 1) 0 != 0) := by conv => lhs; rw [list_snoc hn, valid_snoc]
    rw [hv]
    congr 1
    rw [Bool.eq_iff_iff]; simp

theorem trimL_last {m : List Nat} (h : 0 < m.length) (h0 : m.getD (m.length - 1) 0 = 0) : trimL (m.take (m.length - 1)) = trimL m := by
  have hn : m ≠ [] := fun e => by simp [e] at h
  conv => rhs; rw [list_snoc hn, trimL_snoc, if_pos h0]
theorem trimL_done {m : List Nat} (h0 : ¬ m.getD (m.length - 1) 0 = 0) : trimL m = m :=
  valid_trim (by
    have hn : m ≠ [] := fun e => h0 (by simp [e])
    rw [list_snoc hn, valid_snoc, bne_iff_ne]; exact h0)

theorem ref01_trim (l : List Nat) (hl : l.length < 10000000000000) : Ret Tryz.prog 170 [u32s l] (· = u32s (trimL l)) := by
  refine ret_of_awp tab Tryz.func170 rfl rfl (Nat.le_of_ble_eq_true rfl) (fun w0 F0 => ?_)
  repeat' (first | refine wG ?_ | refine wS ?_ ?_ <;> intro _ | refine finG ?_)
  refine awp_loop1 (fun m : List Nat => ([(0, .d (u32s m))], [])) (fun m => trimL m = trimL l ∧ m.length ≤ l.length) (fun m => m.length) l ⟨rfl, Nat.le_refl _⟩ ⟨rfl, rfl⟩ trivial (fun m hm => ?_)
  obtain ⟨hm1, hm2⟩ := hm
  have e : ((m.length : Int) - 1).toNat = m.length - 1 := by omega
  repeat' (first | refine wG ?_ | refine wS ?_ ?_ <;> intro _ | refine finG ?_)
  · rename_i h1 h2
    rw [e] at h2
    refine ⟨m.take ((m.length : Int) - 1).toNat, ⟨?_, ?_⟩, ?_, ⟨rfl, rfl⟩, trivial⟩
    · rw [e, trimL_last (by omega) (by omega), hm1]
    · simp; omega
    · simp; omega
  · rename_i h1 h2
    rw [e] at h2
    rw [← hm1, trimL_done (by omega)]
  · rename_i h1
    have : m = [] := List.length_eq_zero_iff.1 (by omega)
    subst this
    rw [← hm1]; rfl

theorem ref01_limb (l : List Nat) (i : Int) (j : Nat) (hij : i.toNat = j) (hl : l.length < 10000000000000) (hw : WF l) (h0 : 0 ≤ i) (h1 : i < 10000000000000) : Ret Tryz.prog 169 [u32s l, .int .i64 i] (· = .int .u64 (l.getD j 0 : Nat)) := by
  subst hij
  have hb := hw.getD i.toNat
  simp only [B_val] at hb
  refine ret_of_awp tab Tryz.func169 rfl rfl (Nat.le_of_ble_eq_true rfl) (fun w0 F0 => ?_)
  repeat' (first | refine wG ?_ | refine wS ?_ ?_ <;> intro _ | refine finG ?_)
  · rename_i h
    rw [show l.getD i.toNat 0 = 0 from by simp [List.getD, List.getElem?_eq_none (show l.length ≤ i.toNat by omega)]]; rfl
  · rfl
theorem ref01_Take (l : List Nat) (hl : l.length < 10000000000000) : Ret Tryz.prog 122 [u32s l] (· = u32s (takeL l)) := by
  refine ret_of_awp tab Tryz.func122 rfl rfl (Nat.le_of_ble_eq_true rfl) (fun w0 F0 => ?_)
  repeat' (first | refine wG ?_ | refine cl 159 tt rfl rfl rfl (hr := ref01_Valid _ hl) (k := ?_) | refine wS ?_ ?_ <;> intro _ | refine finG ?_)

  · rename_i e
    simp at e
    simp [takeL, e]
  · rename_i e
    simp at e
    simp [takeL, e]

theorem ref01_compare (m n : Nat) (ha : (limbs m).length < 10000000000000) (hb : (limbs n).length < 10000000000000) : Ret Tryz.prog 171 [u32s (limbs m), u32s (limbs n)] (· = .int .i64 (cmpN m n)) := by
  have wa := wf_limbs m
  have wb := wf_limbs n
  have va := val_limbs m
  have vb := val_limbs n
  have la := @lt_of_length m n
  have lb := @lt_of_length n m
  generalize limbs m = a at *
  generalize limbs n = b at *
  refine ret_of_awp tab Tryz.func171 rfl rfl (Nat.le_of_ble_eq_true rfl) (fun w0 F0 => ?_)
  repeat' (first | refine wG ?_ | refine rg 8 8 ?_ | refine rg 10 8 ?_ | refine wS ?_ ?_ <;> intro _ | refine finG ?_)
  · have := la (by omega)
    simp only [cmpN, this, if_true]
  · have := lb (by omega)
    simp only [cmpN, show ¬ m < n by omega, this, if_true, if_false]
  · rename_i h
    refine awp_loop1 (fun i : Nat => ([(0, .d (u32s a)), (1, .d (u32s b)), (5, .d (.int .i64 ((i : Int) - 1)))], [])) (fun i => i ≤ a.length ∧ a.drop i = b.drop i) (fun i => i) a.length ⟨Nat.le_refl _, by simp; omega⟩ ⟨rfl, rfl, rfl, rfl⟩ trivial (fun i hi => ?_)
    obtain ⟨h1, h2⟩ := hi
    repeat' (first | refine wG ?_ | refine rg 8 8 ?_ | refine rg 10 8 ?_ | refine wS ?_ ?_ <;> intro _ | refine finG ?_)
    all_goals first | have e : ((i : Int) - 1).toNat = i - 1 := by omega
    · rename_i h3 h7
      have h6 : i - 1 + 1 = i := by omega
      rw [← h6] at h2
      have := val_lt_of wa (by omega) (by omega) h2 (by rw [e] at h7; omega)
      simp [cmpN, show m < n by omega]
    · rename_i h3 h8 h7
      have h6 : i - 1 + 1 = i := by omega
      rw [← h6] at h2
      have := val_lt_of wb (by omega) (by omega) h2.symm (by rw [e] at h7; omega)
      simp [cmpN, show n < m by omega, show ¬ m < n by omega]
    · rename_i h3 h7 h8
      have h6 : i - 1 + 1 = i := by omega
      rw [← h6] at h2
      rw [e] at h7 h8
      have h9 : a.getD (i - 1) 0 = b.getD (i - 1) 0 := by omega
      exact ⟨i - 1, ⟨by omega, drop_eq_of (by omega) (by omega) h2 h9⟩, by omega, ⟨rfl, rfl, iv (by omega), rfl⟩, trivial⟩
    · have : i = 0 := by omega
      subst this
      have : a = b := by simpa using h2
      simp [cmpN, show ¬ n < m by rw [← va, ← vb, this]; omega, show ¬ m < n by rw [← va, ← vb, this]; omega]

theorem add_step {a b l : List Nat} {c s x y : Nat} (ha : WF a) (hb : WF b) (hl : WF l) (hc : c ≤ 1) (hv : val l + c * B ^ l.length = val (a.take l.length) + val (b.take l.length)) (hs : s = a.getD l.length 0 + b.getD l.length 0 + c) (hx : x = s % 4294967296) (hy : y = s / 4294967296) :
    WF (l ++ [x]) ∧ y ≤ 1 ∧ val (l ++ [x]) + y * B ^ (l ++ [x]).length = val (a.take (l ++ [x]).length) + val (b.take (l ++ [x]).length) := by
  subst hx hy
  have h1 := ha.getD l.length
  have h2 := hb.getD l.length
  simp only [B_val] at h1 h2
  refine ⟨hl.snoc (by rw [B_val]; omega), by omega, ?_⟩
  rw [val_snoc, List.length_append, List.length_singleton, val_take_succ, val_take_succ, Nat.pow_succ]
  have h3 : s % 4294967296 + s / 4294967296 * B = s := by rw [B_val]; omega
  have h4 : B ^ l.length * (s % 4294967296) + s / 4294967296 * (B ^ l.length * B) = B ^ l.length * s := by
    conv => rhs; rw [← h3, Nat.mul_add]
    rw [← Nat.mul_assoc, Nat.mul_comm (s / 4294967296), Nat.mul_assoc]
  rw [Nat.add_assoc, h4, hs, Nat.mul_add, Nat.mul_add]
  rw [Nat.mul_comm c] at hv
  omega

theorem ref01_Add (a b : List Nat) (hla : a.length < 1000000000000) (hlb : b.length < 1000000000000) (wa : WF a) (wb : WF b) : Ret Tryz.prog 128 [u32s a, u32s b] (· = u32s (limbs (nv a + nv b))) := by
  have va : val (takeL a) = nv a := rfl
  have vb : val (takeL b) = nv b := rfl
  have wa' := wf_takeL wa
  have wb' := wf_takeL wb
  have la := takeL_le a
  have lb := takeL_le b
  refine ret_of_awp tab Tryz.func128 rfl rfl (Nat.le_of_ble_eq_true rfl) (fun w0 F0 => ?_)
  repeat' (first | refine wG ?_ | refine cl 122 tt rfl rfl rfl (hr := ref01_Take _ (by omega)) (k := ?_) | refine wS ?_ ?_ <;> intro _ | refine finG ?_)
  generalize takeL a = a' at *
  generalize takeL b = b' at *
  refine awp_adopt 5 35 111 1 (eN .u32) 0 rfl ?_
  refine awp_loop2 (fun (l : List Nat) (c : Nat) => ([(0, .d (u32s a')), (1, .d (u32s b')), (5, .own 35 0 l.length 111 1), (6, .d (.int .u64 c)), (7, .d (.int .i64 l.length))], [(35, .data 111 1 (eN .u32) 0 l)])) (fun l c => l.length ≤ a'.length + b'.length + 1 ∧ WF l ∧ c ≤ 1 ∧ val l + c * B ^ l.length = val (a'.take l.length) + val (b'.take l.length)) (fun l c => a'.length + b'.length + 2 - l.length) [] 0 ⟨by simp, WF.nil, by simp, by simp [val]⟩ ⟨rfl, rfl, rfl, rfl, rfl, rfl⟩ ⟨rfl, trivial⟩ (fun l c hi => ?_)
  obtain ⟨h1, h2, h3, h4⟩ := hi
  have g1 := wa'.getD l.length
  have g2 := wb'.getD l.length
  simp only [B_val] at g1 g2
  repeat' (first | refine wG ?_ | refine cl 169 tt rfl rfl rfl (hr := ref01_limb _ _ _ (Int.toNat_natCast _) (by omega) wa' (by omega) (by omega)) (k := ?_) | refine cl 169 tt rfl rfl rfl (hr := ref01_limb _ _ _ (Int.toNat_natCast _) (by omega) wb' (by omega) (by omega)) (k := ?_) | refine cl 170 tt rfl rfl rfl (hr := ref01_trim _ (by omega)) (k := ?_) | refine wS ?_ ?_ <;> intro _ | refine finG ?_)
  · rename_i h
    refine ⟨_, (a'.getD l.length 0 + b'.getD l.length 0 + c) / 4294967296, ⟨?_, add_step wa' wb' h2 h3 h4 rfl ?_ rfl⟩, ?_, ⟨rfl, rfl, rfl, iv (by omega), iv (by simp), rfl⟩, rfl, trivial⟩
    · simp only [List.length_append, List.length_singleton]; omega
    · omega
    · simp only [List.length_append, List.length_singleton]; omega
  · rename_i h
    show u32s _ = u32s _
    have g3 := val_lt wa'
    have g4 := val_lt wb'
    have g5 : a'.length + 1 ≤ l.length := by omega
    have g6 : b'.length + 1 ≤ l.length := by omega
    rw [val_take_all a' (by omega), val_take_all b' (by omega)] at h4
    have g7 := Nat.pow_le_pow_right (show 0 < B by decide) g5
    have g8 := Nat.pow_le_pow_right (show 0 < B by decide) g6
    rw [Nat.pow_succ, B_val] at g7 g8
    rw [B_val] at g3 g4 h4
    have g9 : c = 0 := by
      refine Nat.le_zero.1 (Nat.le_of_not_lt fun hc => ?_)
      have := Nat.mul_le_mul_right (4294967296 ^ l.length) (show 1 ≤ c from hc)
      omega
    subst g9
    rw [trimL_limbs h2, show val l = nv a + nv b by omega]
end Go.Proofs.YtejigedigmagdaaGreat

/-
  Lists of limbs: lengths of results, digits and bits. Conditions: none.
-/
namespace Go.Vw

abbrev ln (n : Nat) : Nat := (limbs n).length
theorem lt_ln (n : Nat) : n < B ^ ln n := lt_pow_length n
theorem ln_le {n k : Nat} (h : n < B ^ k) : ln n ≤ k := length_limbs_le h
theorem ln_mono {m n : Nat} (h : m ≤ n) : ln m ≤ ln n := limbs_len_mono h
theorem ln_add (m n : Nat) : ln (m + n) ≤ ln m + ln n + 1 := by
  refine ln_le ?_
  have h1 := lt_ln m
  have h2 := lt_ln n
  have h3 : B ^ ln m ≤ B ^ (ln m + ln n) := Nat.pow_le_pow_right (by decide) (by omega)
  have h4 : B ^ ln n ≤ B ^ (ln m + ln n) := Nat.pow_le_pow_right (by decide) (by omega)
  rw [Nat.pow_succ]
  have : B ^ (ln m + ln n) * 2 ≤ B ^ (ln m + ln n) * B := Nat.mul_le_mul_left _ (by decide)
  omega
theorem ln_add1 {m n k : Nat} (h1 : ln m ≤ k) (h2 : ln n ≤ k) : ln (m + n) ≤ k + 1 := by
  refine ln_le ?_
  have h1' := Nat.lt_of_lt_of_le (lt_ln m) (Nat.pow_le_pow_right (show 0 < B by decide) h1)
  have h2' := Nat.lt_of_lt_of_le (lt_ln n) (Nat.pow_le_pow_right (show 0 < B by decide) h2)
  rw [Nat.pow_succ]
  have : B ^ k * 2 ≤ B ^ k * B := Nat.mul_le_mul_left _ (by decide)
  omega
theorem ln_mul (m n : Nat) : ln (m * n) ≤ ln m + ln n := by
  refine ln_le ?_
  rw [Nat.pow_add]
  by_cases h : n = 0
  · subst h; exact Nat.mul_pos (Nat.pow_pos (by decide)) (Nat.pow_pos (by decide))
  · exact Nat.mul_lt_mul_of_lt_of_le (lt_ln m) (Nat.le_of_lt (lt_ln n)) (Nat.pow_pos (by decide))
theorem ln_zero : ln 0 = 0 := by simp [ln, limbs_zero]
theorem ln_one : ln 1 = 1 := by simp [ln, limbs, B_val]
theorem ln_small {n : Nat} (h : n < B) : ln n ≤ 1 := ln_le (by simpa using h)
theorem limbs_small {n : Nat} (h : n < B) (h0 : n ≠ 0) : limbs n = [n] := by
  rw [limbs_pos h0, Nat.mod_eq_of_lt h, Nat.div_eq_of_lt h, limbs_zero]
theorem nv_val {l : List Nat} (h : valid l = true) : nv l = val l := by simp [nv, takeL, h]
theorem limbs_val {l : List Nat} (h : WF l) (hv : valid l = true) : limbs (val l) = l := by
  rw [← trimL_limbs h, valid_trim hv]
theorem limbs_nv {l : List Nat} (h : WF l) (hv : valid l = true) : limbs (nv l) = l := by rw [nv_val hv, limbs_val h hv]

theorem getD_limbs (n i : Nat) : (limbs n).getD i 0 = n / B ^ i % B := by
  induction i generalizing n with
  | zero =>
    by_cases h : n = 0
    · subst h; simp [limbs_zero]
    · rw [limbs_pos h]; simp
  | succ i ih =>
    by_cases h : n = 0
    · subst h; simp [limbs_zero]
    · rw [limbs_pos h, List.getD_cons_succ, ih, Nat.pow_succ, Nat.mul_comm, ← Nat.div_div_eq_div_mul]

theorem bit_of_limb (n i : Nat) : (limbs n).getD (i / 32) 0 / 2 ^ (i % 32) % 2 = n / 2 ^ i % 2 := by
  rw [getD_limbs]
  have e : n / 2 ^ i = n / B ^ (i / 32) / 2 ^ (i % 32) := by
    rw [Nat.div_div_eq_div_mul, B_val, show (4294967296 : Nat) = 2 ^ 32 from rfl, ← Nat.pow_mul, ← Nat.pow_add, Nat.div_add_mod]
  rw [e]
  generalize n / B ^ (i / 32) = x
  have h : i % 32 < 32 := Nat.mod_lt _ (by decide)
  generalize i % 32 = r at h
  have hB : B = 2 ^ r * (2 * 2 ^ (31 - r)) := by
    rw [← Nat.mul_assoc, Nat.mul_comm (2 ^ r), Nat.mul_assoc, ← Nat.pow_add, show r + (31 - r) = 31 by omega]
  rw [hB, Nat.mod_mul_right_div_self, Nat.mod_mul_right_mod]
theorem div_pow_step (a k : Nat) (h : 0 < k) : a / 2 ^ (k - 1) = 2 * (a / 2 ^ k) + a / 2 ^ (k - 1) % 2 := by
  have e : a / 2 ^ k = a / 2 ^ (k - 1) / 2 := by
    rw [Nat.div_div_eq_div_mul, ← Nat.pow_succ, show (k - 1).succ = k by omega]
  rw [e]; omega
theorem div_bits_zero (n : Nat) : n / 2 ^ (32 * ln n) = 0 := by
  refine Nat.div_eq_of_lt ?_
  rw [Nat.pow_mul]
  exact lt_ln n
end Go.Vw

/-
  Laws of machine words: borrow, halves, powers. Conditions: as each says.
-/
namespace Go.Vw

theorem bit31 (n : Nat) : n.testBit 31 = decide (n / 2147483648 % 2 = 1) := by rw [Nat.testBit_eq_decide_div_mod_eq]
theorem ones31 : (4294967295 : Nat).testBit 31 = true := by decide
theorem borrow_law {x y b d : Nat} (hx : x < 4294967296) (hy : y < 4294967296) (hb : b ≤ 1) (hd : d < 4294967296) (e : (d : Int) = (x : Int) - y - b + (if x < y + b then 4294967296 else 0)) :
    (((4294967295 ^^^ x) &&& y) ||| ((4294967295 ^^^ (x ^^^ y)) &&& d)) / 2147483648 = if x < y + b then 1 else 0 := by
  have hN : (((4294967295 ^^^ x) &&& y) ||| ((4294967295 ^^^ (x ^^^ y)) &&& d)) < 4294967296 := by
    have h1 : ((4294967295 ^^^ x) &&& y) < 2 ^ 32 := Nat.lt_of_le_of_lt Nat.and_le_right hy
    have h2 : ((4294967295 ^^^ (x ^^^ y)) &&& d) < 2 ^ 32 := Nat.lt_of_le_of_lt Nat.and_le_right hd
    exact Nat.or_lt_two_pow h1 h2
  have ht : (((4294967295 ^^^ x) &&& y) ||| ((4294967295 ^^^ (x ^^^ y)) &&& d)).testBit 31 = ((!x.testBit 31 && y.testBit 31) || (!(x.testBit 31 ^^ y.testBit 31) && d.testBit 31)) := by
    simp only [Nat.testBit_or, Nat.testBit_and, Nat.testBit_xor, ones31, Bool.true_bne, Bool.true_xor]
  generalize (((4294967295 ^^^ x) &&& y) ||| ((4294967295 ^^^ (x ^^^ y)) &&& d)) = N at *
  rw [bit31 N, bit31 x, bit31 y, bit31 d] at ht
  have hxl : x / 2147483648 % 2 = 1 ∨ x / 2147483648 % 2 = 0 := by omega
  have hyl : y / 2147483648 % 2 = 1 ∨ y / 2147483648 % 2 = 0 := by omega
  have hdl : d / 2147483648 % 2 = 1 ∨ d / 2147483648 % 2 = 0 := by omega
  rcases hxl with h1 | h1 <;> rcases hyl with h2 | h2 <;> rcases hdl with h3 | h3 <;> rw [h1, h2, h3] at ht <;> simp at ht <;> split at e <;> split <;> omega

theorem or_halves (a b : Nat) (hb : b < 4294967296) : (a * 4294967296) ||| b = a * 4294967296 + b := by
  have := Nat.shiftLeft_add_eq_or_of_lt (i := 32) (b := b) hb a
  rw [Nat.shiftLeft_eq] at this
  exact this.symm
theorem or_low (a b k : Nat) (hb : b < 2 ^ k) : (a * 2 ^ k) ||| b = a * 2 ^ k + b := by
  have := Nat.shiftLeft_add_eq_or_of_lt (i := k) (b := b) hb a
  rw [Nat.shiftLeft_eq] at this
  exact this.symm

/-! ## Long division -/

def est (b u3 v2 : Nat) : Nat := min (u3 / v2) (b - 1)
theorem est_lt {b : Nat} (hb : 0 < b) (u v : Nat) : est b u v < b := by unfold est; omega
section
variable {b t u0 v1 v0 q r : Nat} (hb : 1 < b) (hv : 0 < v1) (he : q * v1 + r = t)
include hb hv he
theorem est_go (hu0 : u0 < b) (hq : est b (t * b + u0) (v1 * b + v0) ≤ q) (hgo : b ≤ q ∨ r * b + u0 < q * v0) :
    1 ≤ q ∧ est b (t * b + u0) (v1 * b + v0) ≤ q - 1 ∧ (q - 1) * v1 + (r + v1) = t := by
  have hvb : 0 < v1 * b := Nat.mul_pos hv (by omega)
  have hq1 : 1 ≤ q := by
    rcases hgo with h | h
    · omega
    · rcases Nat.eq_zero_or_pos q with e | e
      · subst e; rw [Nat.zero_mul] at h; omega
      · exact e
  refine ⟨hq1, ?_, ?_⟩
  · rcases hgo with h | h
    · have := est_lt (show 0 < b by omega) (t * b + u0) (v1 * b + v0); omega
    · have : (t * b + u0) / (v1 * b + v0) < q := by
        rw [Nat.div_lt_iff_lt_mul (by omega), Nat.mul_add, ← Nat.mul_assoc, ← he, Nat.add_mul]
        omega
      unfold est; omega
  · obtain ⟨p, rfl⟩ : ∃ p, q = p + 1 := ⟨q - 1, by omega⟩
    rw [Nat.add_mul] at he
    rw [Nat.add_sub_cancel]
    omega
theorem est_done (hv0 : v0 < b) (hq : est b (t * b + u0) (v1 * b + v0) ≤ q) (hB : r < b ∨ q < b) (hst : r < b → q < b ∧ q * v0 ≤ r * b + u0) : q = est b (t * b + u0) (v1 * b + v0) := by
  have hvb : 0 < v1 * b := Nat.mul_pos hv (by omega)
  have hqB : q < b := by rcases hB with h | h; exact (hst h).1; exact h
  have hle : q * v0 ≤ r * b + u0 := by
    rcases Nat.lt_or_ge r b with h | h
    · exact (hst h).2
    · have h1 : q * v0 ≤ b * b := Nat.mul_le_mul (by omega) (by omega)
      have h2 : b * b ≤ r * b := Nat.mul_le_mul_right _ h
      omega
  have : q ≤ (t * b + u0) / (v1 * b + v0) := by
    rw [Nat.le_div_iff_mul_le (by omega), Nat.mul_add, ← Nat.mul_assoc, ← he, Nat.add_mul]
    omega
  unfold est at hq ⊢; omega
end
theorem est_digit {b W V U3 V2 wl vl P : Nat} (hb : 0 < b) (hP : 0 < P) (hW : W = U3 * P + wl) (hwl : wl < P) (hV : V = V2 * P + vl) (hvl : vl < P) (hV2 : b ≤ V2) (hlt : W < V * b) : W / V ≤ est b U3 V2 ∧ est b U3 V2 ≤ W / V + 1 := by
  have hV0 : 0 < V := by rw [hV]; have := Nat.mul_pos (show 0 < V2 by omega) hP; omega
  constructor
  · have h1 : W / V < b := by rw [Nat.div_lt_iff_lt_mul hV0, Nat.mul_comm]; exact hlt
    have h2 : W / V ≤ U3 / V2 := by
      rw [Nat.le_div_iff_mul_le (by omega)]
      have h3 := Nat.div_mul_le_self W V
      generalize W / V = q at *
      have h4 : q * V2 * P ≤ W := by
        refine Nat.le_trans ?_ h3
        rw [hV, Nat.mul_add, Nat.mul_assoc]; omega
      have h5 : q * V2 * P < (U3 + 1) * P := by rw [Nat.add_mul]; omega
      have := Nat.lt_of_mul_lt_mul_right h5
      omega
    unfold est; omega
  · obtain ⟨e, he⟩ : ∃ e, est b U3 V2 = e := ⟨_, rfl⟩
    rw [he]
    have h1 : e < b := by rw [← he]; exact est_lt hb _ _
    have h2 : e * V2 ≤ U3 := by
      have : e ≤ U3 / V2 := by rw [← he]; unfold est; omega
      exact Nat.le_trans (Nat.mul_le_mul_right _ this) (Nat.div_mul_le_self _ _)
    rcases Nat.eq_zero_or_pos e with h0 | h0
    · rw [h0]; exact Nat.zero_le _
    · obtain ⟨p, rfl⟩ : ∃ p, e = p + 1 := ⟨e - 1, by omega⟩
      have : p ≤ W / V := by
        rw [Nat.le_div_iff_mul_le hV0, hV, hW, Nat.mul_add]
        have h3 : p * vl ≤ p * P := Nat.mul_le_mul_left _ (by omega)
        have h4 : (p * V2 + p) * P ≤ U3 * P := by
          refine Nat.mul_le_mul_right _ ?_
          rw [Nat.add_mul] at h2
          omega
        rw [Nat.add_mul, Nat.mul_assoc] at h4
        omega
      exact Nat.succ_le_succ this
end Go.Vw

set_option maxHeartbeats 8000000
namespace Go.Proofs.YtejigedigmagdaaGreat
open Go.Vw
attribute [local irreducible] awp awpL awpR

theorem bits_Add32 (x y c : Nat) (hx : x < 4294967296) (hy : y < 4294967296) (hc : c ≤ 1) : Ret Tryz.prog 176 [.int .u32 x, .int .u32 y, .int .u32 c] (· = .tup [.int .u32 ((x + y + c : Nat) % 4294967296 : Nat), .int .u32 ((x + y + c : Nat) / 4294967296 : Nat)]) := by
  refine ret_of_awp tab Tryz.func176 rfl rfl (Nat.le_of_ble_eq_true rfl) (fun w0 F0 => ?_)
  repeat' (first | refine wG ?_ | refine wS ?_ ?_ <;> intro _ | refine finTG ?_)
  refine LeT.cons (LeD.eqi ?_) (LeT.cons (LeD.eqi ?_) LeT.nil) <;> omega
theorem bits_Sub32 (x y c : Nat) (hx : x < 4294967296) (hy : y < 4294967296) (hc : c ≤ 1) : Ret Tryz.prog 177 [.int .u32 x, .int .u32 y, .int .u32 c] (· = .tup [.int .u32 ((x : Int) - y - c + (if x < y + c then 4294967296 else 0)), .int .u32 (if x < y + c then 1 else 0)]) := by
  have hd : ((((x : Int) - y) % 4294967296 - c) % 4294967296) = (x : Int) - y - c + (if x < y + c then 4294967296 else 0) := by split <;> omega
  have hd0 : 0 ≤ ((((x : Int) - y) % 4294967296 - c) % 4294967296) ∧ ((((x : Int) - y) % 4294967296 - c) % 4294967296) < 4294967296 := by omega
  have hA : ((4294967296 - 1 : Int).toNat ^^^ (x : Int).toNat) < 4294967296 := Nat.xor_lt_two_pow (n := 32) (by decide) (by simpa using hx)
  have hX : ((x : Int).toNat ^^^ (y : Int).toNat) < 4294967296 := Nat.xor_lt_two_pow (n := 32) (by simpa using hx) (by simpa using hy)
  have hY : ((4294967296 - 1 : Int).toNat ^^^ ((((x : Int).toNat ^^^ (y : Int).toNat : Nat) : Int)).toNat) < 4294967296 := Nat.xor_lt_two_pow (n := 32) (by decide) (by simpa using hX)
  have hP : ((((4294967296 - 1 : Int).toNat ^^^ (x : Int).toNat : Nat) : Int).toNat &&& (y : Int).toNat) < 4294967296 := Nat.lt_of_le_of_lt Nat.and_le_right (by simpa using hy)
  have hQ : (((((4294967296 - 1 : Int).toNat ^^^ ((((x : Int).toNat ^^^ (y : Int).toNat : Nat) : Int)).toNat : Nat) : Int)).toNat &&& ((((x : Int) - y) % 4294967296 - c) % 4294967296).toNat) < 4294967296 := Nat.lt_of_le_of_lt Nat.and_le_right (by omega)
  obtain ⟨d, hdd⟩ : ∃ d : Nat, ((((x : Int) - y) % 4294967296 - c) % 4294967296) = d := ⟨((((x : Int) - y) % 4294967296 - c) % 4294967296).toNat, by omega⟩
  have law := borrow_law (d := d) hx hy hc (by omega) (by rw [← hdd, hd])
  refine ret_of_awp tab Tryz.func177 rfl rfl (Nat.le_of_ble_eq_true rfl) (fun w0 F0 => ?_)
  repeat' (first | refine wG ?_ | refine wS ?_ ?_ <;> intro _ | refine finTG ?_)
  refine LeT.cons (LeD.eqi ?_) (LeT.cons (LeD.eqi ?_) LeT.nil)
  · exact hd
  · rw [hdd]
    simp only [Int.toNat_natCast, show (4294967296 - 1 : Int).toNat = 4294967295 from rfl]
    have e : ∀ n : Nat, ((n : Nat) : Int) / 2147483648 = ((n / 2147483648 : Nat) : Int) := fun n => by omega
    rw [e, law]
    split <;> rfl
theorem bits_Div32 (h l d : Nat) (hh : h < d) (hl : l < 4294967296) (hd : d < 4294967296) : Ret Tryz.prog 199 [.int .u32 h, .int .u32 l, .int .u32 d] (· = .tup [.int .u32 ((h * 4294967296 + l) / d : Nat), .int .u32 ((h * 4294967296 + l) % d : Nat)]) := by
  have ho := or_halves h l hl
  have e1 : ((h : Int) * 4294967296).toNat = h * 4294967296 := by omega
  have e2 : (((h : Int) * 4294967296).toNat ||| ((l : Int)).toNat) = h * 4294967296 + l := by rw [e1, Int.toNat_natCast, ho]
  refine ret_of_awp tab Tryz.func199 rfl rfl (Nat.le_of_ble_eq_true rfl) (fun w0 F0 => ?_)
  repeat' (first | refine wG ?_ | refine rg 4 11 ?_ | refine wS ?_ ?_ <;> intro _ | refine finTG ?_)
  rw [e2]
  have q1 : (h * 4294967296 + l) / d < 4294967296 := by
    rw [Nat.div_lt_iff_lt_mul (by omega)]
    have := Nat.mul_le_mul_right 4294967296 (show h + 1 ≤ d from hh)
    rw [Nat.mul_comm 4294967296]; omega
  have q2 : (h * 4294967296 + l) % d < 4294967296 := Nat.lt_trans (Nat.mod_lt _ (by omega)) hd
  generalize h * 4294967296 + l = n at *
  refine LeT.cons (LeD.eqi ?_) (LeT.cons (LeD.eqi ?_) LeT.nil)
  · rw [← Int.natCast_ediv]; exact Int.emod_eq_of_lt (Int.natCast_nonneg _) (Int.ofNat_lt.2 q1)
  · rw [← Int.natCast_emod]; exact Int.emod_eq_of_lt (Int.natCast_nonneg _) (Int.ofNat_lt.2 q2)
end Go.Proofs.YtejigedigmagdaaGreat

/-
  Sums, differences and products of lists of limbs, limb by limb into a row that lies ready. Conditions: as each says.
-/
namespace Go.Vw
theorem take_set_succ (l : List Nat) (i x : Nat) (h : i < l.length) : (l.set i x).take (i + 1) = l.take i ++ [x] := by
  rw [List.take_add_one, List.take_set_of_le (Nat.le_refl _)]
  simp [h]
theorem val_take_set (l : List Nat) (i x : Nat) (h : i < l.length) : val ((l.set i x).take (i + 1)) = val (l.take i) + B ^ i * x := by
  rw [take_set_succ l i x h, val_snoc, List.length_take, Nat.min_eq_left (by omega)]
theorem wf_replicate (n : Nat) : WF (List.replicate n 0) := fun x hx => by
  have := List.eq_of_mem_replicate hx
  subst this; decide
theorem getD_take_le (l : List Nat) (i : Nat) (h : l.length ≤ i) : l.getD i 0 = 0 := by
  rw [List.getD_eq_getElem?_getD, List.getElem?_eq_none h]; rfl
theorem addL_step {a b o : List Nat} {i c : Nat} (ha : WF a) (hb : WF b) (ho : WF o) (hi : i < o.length) (hc : c ≤ 1) (hv : val (o.take i) + c * B ^ i = val (a.take i) + val (b.take i)) :
    WF (o.set i ((a.getD i 0 + b.getD i 0 + c) % 4294967296)) ∧ (a.getD i 0 + b.getD i 0 + c) / 4294967296 ≤ 1 ∧ val ((o.set i ((a.getD i 0 + b.getD i 0 + c) % 4294967296)).take (i + 1)) + (a.getD i 0 + b.getD i 0 + c) / 4294967296 * B ^ (i + 1) = val (a.take (i + 1)) + val (b.take (i + 1)) := by
  have h1 := ha.getD i
  have h2 := hb.getD i
  simp only [B_val] at h1 h2
  refine ⟨ho.set _ (by rw [B_val]; omega), by omega, ?_⟩
  rw [val_take_set o i _ hi, val_take_succ a, val_take_succ b, Nat.pow_succ]
  obtain ⟨s, hs⟩ : ∃ s, a.getD i 0 + b.getD i 0 + c = s := ⟨_, rfl⟩
  rw [hs]
  have h3 : s % 4294967296 + s / 4294967296 * B = s := by rw [B_val]; omega
  have h4 : B ^ i * (s % 4294967296) + s / 4294967296 * (B ^ i * B) = B ^ i * s := by
    conv => rhs; rw [← h3, Nat.mul_add]
    rw [← Nat.mul_assoc, Nat.mul_comm (s / 4294967296), Nat.mul_assoc]
  rw [Nat.add_assoc, h4, ← hs, Nat.mul_add, Nat.mul_add]
  rw [Nat.mul_comm c] at hv
  omega
theorem subL_step {a b o : List Nat} {i c : Nat} (ha : WF a) (hb : WF b) (ho : WF o) (hi : i < o.length) (hc : c ≤ 1) {d : Nat} (hv : val (o.take i) + val (b.take i) = val (a.take i) + c * B ^ i) (hd : (d : Int) = (a.getD i 0 : Int) - b.getD i 0 - c + (if a.getD i 0 < b.getD i 0 + c then 4294967296 else 0)) :
    WF (o.set i d) ∧ val ((o.set i d).take (i + 1)) + val (b.take (i + 1)) = val (a.take (i + 1)) + (if a.getD i 0 < b.getD i 0 + c then 1 else 0) * B ^ (i + 1) := by
  have h1 := ha.getD i
  have h2 := hb.getD i
  simp only [B_val] at h1 h2
  refine ⟨ho.set _ (by rw [B_val]; split at hd <;> omega), ?_⟩
  rw [val_take_set o i _ hi, val_take_succ a, val_take_succ b, Nat.pow_succ]
  obtain ⟨x, hx⟩ : ∃ x, a.getD i 0 = x := ⟨_, rfl⟩
  obtain ⟨y, hy⟩ : ∃ y, b.getD i 0 = y := ⟨_, rfl⟩
  rw [hx, hy] at hd ⊢
  obtain ⟨e, he, hde⟩ : ∃ e, (if x < y + c then 1 else 0) = e ∧ d + y + c = x + e * B := by
    refine ⟨_, rfl, ?_⟩
    rw [B_val]
    split at hd <;> split <;> omega
  rw [he]
  have h4 : B ^ i * d + B ^ i * y + B ^ i * c = B ^ i * x + e * (B ^ i * B) := by
    rw [← Nat.mul_add, ← Nat.mul_add, hde, Nat.mul_add]
    congr 1
    rw [← Nat.mul_assoc, ← Nat.mul_assoc, Nat.mul_comm (B ^ i) e]
  rw [Nat.mul_comm c] at hv
  omega
theorem val_drop (l : List Nat) (i : Nat) (h : i < l.length) : val (l.drop i) = l.getD i 0 + B * val (l.drop (i + 1)) := by
  rw [List.drop_eq_getElem_cons h, val]
  rw [List.getD_eq_getElem?_getD, List.getElem?_eq_getElem h]; rfl
theorem val_set (l : List Nat) (k x : Nat) (h : k < l.length) : val (l.set k x) + B ^ k * l.getD k 0 = val l + B ^ k * x := by
  have h1 := val_split l k h
  have h2 := val_split (l.set k x) k (by simpa using h)
  rw [List.take_set_of_le (Nat.le_refl _), List.drop_set_of_lt (by omega)] at h2
  have h3 : (l.set k x).getD k 0 = x := by simp [List.getD_eq_getElem?_getD, h]
  rw [h3] at h2
  rw [h1, h2, Nat.mul_add, Nat.mul_add]
  omega
theorem mulL_step {o : List Nat} {k n c x y S T : Nat} (ho : WF o) (hk : k < n) (hn : n ≤ o.length) (hx : x < 4294967296) (hy : y < 4294967296) (hc : c < 4294967296) (hv : val (o.take n) + c * B ^ k = S + T) :
    x * y + o.getD k 0 + c < 18446744073709551616 ∧ WF (o.set k ((x * y + o.getD k 0 + c) % 4294967296)) ∧ (x * y + o.getD k 0 + c) / 4294967296 < 4294967296 ∧ val ((o.set k ((x * y + o.getD k 0 + c) % 4294967296)).take n) + (x * y + o.getD k 0 + c) / 4294967296 * B ^ (k + 1) = S + (T + B ^ k * (x * y)) := by
  have h1 := ho.getD k
  simp only [B_val] at h1
  have hxy : x * y ≤ 4294967295 * 4294967295 := Nat.mul_le_mul (by omega) (by omega)
  refine ⟨by omega, ho.set _ (by rw [B_val]; omega), by omega, ?_⟩
  rw [List.take_set]
  have hg : (o.take n).getD k 0 = o.getD k 0 := by simp [List.getD_eq_getElem?_getD, List.getElem?_take, hk]
  have h2 := val_set (o.take n) k ((x * y + o.getD k 0 + c) % 4294967296) (by simp; omega)
  rw [hg] at h2
  obtain ⟨s, hs⟩ : ∃ s, x * y + o.getD k 0 + c = s := ⟨_, rfl⟩
  rw [hs] at h2 ⊢
  have h3 : s % 4294967296 + s / 4294967296 * B = s := by rw [B_val]; omega
  have h4 : B ^ k * (s % 4294967296) + s / 4294967296 * (B ^ k * B) = B ^ k * (x * y) + B ^ k * o.getD k 0 + B ^ k * c := by
    rw [← Nat.mul_add, ← Nat.mul_add, hs]
    conv => rhs; rw [← h3, Nat.mul_add]
    rw [← Nat.mul_assoc, Nat.mul_comm (s / 4294967296), Nat.mul_assoc]
  rw [Nat.pow_succ]
  rw [Nat.mul_comm c] at hv
  omega
theorem shortL_step {a q : List Nat} {i d r : Nat} (ha : WF a) (hq : WF q) (hi : i < a.length) (hqi : i < q.length) (hd : 0 < d) (hdB : d < 4294967296) (hr : r < d) (hv : val (a.drop (i + 1)) = val (q.drop (i + 1)) * d + r) :
    (r * 4294967296 + a.getD i 0) / d < 4294967296 ∧ (r * 4294967296 + a.getD i 0) % d < d ∧ WF (q.set i ((r * 4294967296 + a.getD i 0) / d)) ∧ val (a.drop i) = val ((q.set i ((r * 4294967296 + a.getD i 0) / d)).drop i) * d + (r * 4294967296 + a.getD i 0) % d := by
  have h1 := ha.getD i
  simp only [B_val] at h1
  have hlt : (r * 4294967296 + a.getD i 0) / d < 4294967296 := by
    rw [Nat.div_lt_iff_lt_mul hd]
    have := Nat.mul_le_mul_right 4294967296 (show r + 1 ≤ d from hr)
    rw [Nat.mul_comm 4294967296]; omega
  refine ⟨hlt, Nat.mod_lt _ hd, hq.set _ (by rw [B_val]; exact hlt), ?_⟩
  rw [val_drop a i hi, val_drop (q.set i _) i (by simpa using hqi), List.drop_set_of_lt (by omega), hv]
  have h3 : (q.set i ((r * 4294967296 + a.getD i 0) / d)).getD i 0 = (r * 4294967296 + a.getD i 0) / d := by simp [List.getD_eq_getElem?_getD, hqi]
  rw [h3]
  have h4 := Nat.div_add_mod (r * 4294967296 + a.getD i 0) d
  generalize (r * 4294967296 + a.getD i 0) % d = f at *
  generalize (r * 4294967296 + a.getD i 0) / d = e at *
  rw [Nat.mul_comm d] at h4
  rw [Nat.add_mul, Nat.mul_add, B_val, Nat.mul_assoc]
  omega
end Go.Vw

set_option maxHeartbeats 8000000
namespace Go.Proofs.YtejigedigmagdaaGreat
open Go.Vw
attribute [local irreducible] awp awpL awpR

theorem sub_step {a b l : List Nat} {c x y : Nat} (ha : WF a) (hb : WF b) (hl : WF l) (hc : c ≤ 1) (hv : val l + val (b.take l.length) = val (a.take l.length) + c * B ^ l.length) (hx : x = (a.getD l.length 0 + 4294967296 - b.getD l.length 0 - c) % 4294967296) (hy : y = 1 - (a.getD l.length 0 + 4294967296 - b.getD l.length 0 - c) / 4294967296) :
    WF (l ++ [x]) ∧ y ≤ 1 ∧ val (l ++ [x]) + val (b.take (l ++ [x]).length) = val (a.take (l ++ [x]).length) + y * B ^ (l ++ [x]).length := by
  have h1 := ha.getD l.length
  have h2 := hb.getD l.length
  simp only [B_val] at h1 h2
  refine ⟨hl.snoc (by rw [B_val]; omega), by omega, ?_⟩
  rw [val_snoc, List.length_append, List.length_singleton, val_take_succ, val_take_succ, Nat.pow_succ]
  have h3 : x + b.getD l.length 0 + c = a.getD l.length 0 + y * B := by rw [B_val]; omega
  have h4 : B ^ l.length * x + B ^ l.length * b.getD l.length 0 + c * B ^ l.length = B ^ l.length * a.getD l.length 0 + y * (B ^ l.length * B) := by
    rw [Nat.mul_comm c, ← Nat.mul_add, ← Nat.mul_add, h3, Nat.mul_add, Nat.mul_comm y B, Nat.mul_comm y, ← Nat.mul_assoc]
  omega

theorem ref01_Sub (a b : List Nat) (hla : a.length < 1000000000000) (hlb : b.length < 1000000000000) (wa : WF a) (wb : WF b) : Ret Tryz.prog 129 [u32s a, u32s b] (· = .tup [u32s (limbs (nv a - nv b)), .bool (decide (nv b ≤ nv a))]) := by
  have la := length_limbs_nv wa
  have lb := length_limbs_nv wb
  have ea := takeL_limbs wa
  have eb := takeL_limbs wb
  generalize nv a = m at *
  generalize nv b = n at *
  have wa' := wf_limbs m
  have wb' := wf_limbs n
  have va := val_limbs m
  have vb := val_limbs n
  have ta := ref01_Take a (by omega)
  have tb := ref01_Take b (by omega)
  rw [ea] at ta
  rw [eb] at tb
  have hcmp := ref01_compare m n (by omega) (by omega)
  have lc := @limbs_len_mono n m
  generalize limbs m = a' at *
  generalize limbs n = b' at *
  refine ret_of_awp tab Tryz.func129 rfl rfl (Nat.le_of_ble_eq_true rfl) (fun w0 F0 => ?_)
  repeat' (first | refine wG ?_ | refine wC ta ?_ | refine wC tb ?_ | refine wC hcmp ?_ | refine wS ?_ ?_ <;> intro _ | refine finTG ?_)
  · rename_i h
    have h := (cmpN_neg m n).1 h
    rw [show m - n = 0 by omega, limbs_zero, decide_eq_false (show ¬ n ≤ m by omega)]
    exact leT
  rename_i h
  have h := mt (cmpN_neg m n).2 h
  have lc := lc (by omega)
  refine awp_adopt 6 38 111 1 (eN .u32) 0 rfl ?_
  refine awp_loop2 (fun (l : List Nat) (c : Nat) => ([(0, .d (u32s a')), (1, .d (u32s b')), (6, .own 38 0 l.length 111 1), (7, .d (.int .u64 c)), (8, .d (.int .i64 l.length))], [(38, .data 111 1 (eN .u32) 0 l)])) (fun l c => l.length ≤ a'.length ∧ WF l ∧ c ≤ 1 ∧ val l + val (b'.take l.length) = val (a'.take l.length) + c * B ^ l.length) (fun l c => a'.length - l.length) [] 0 ⟨by simp, WF.nil, by simp, by simp [val]⟩ ⟨rfl, rfl, rfl, rfl, rfl, rfl⟩ ⟨rfl, trivial⟩ (fun l c hi => ?_)
  obtain ⟨h1, h2, h3, h4⟩ := hi
  have g1 := wa'.getD l.length
  have g2 := wb'.getD l.length
  simp only [B_val] at g1 g2
  repeat' (first | refine wG ?_ | refine cl 169 tt rfl rfl rfl (hr := ref01_limb _ _ _ (Int.toNat_natCast _) (by omega) wa' (by omega) (by omega)) (k := ?_) | refine cl 169 tt rfl rfl rfl (hr := ref01_limb _ _ _ (Int.toNat_natCast _) (by omega) wb' (by omega) (by omega)) (k := ?_) | refine cl 170 tt rfl rfl rfl (hr := ref01_trim _ (by omega)) (k := ?_) | refine wS ?_ ?_ <;> intro _ | refine finTG ?_)
  · exact ⟨_, 1 - (a'.getD l.length 0 + 4294967296 - b'.getD l.length 0 - c) / 4294967296, ⟨by simp; omega, sub_step wa' wb' h2 h3 h4 (by omega) rfl⟩, by simp; omega, ⟨rfl, rfl, rfl, iv (by omega), iv (by simp), rfl⟩, rfl, trivial⟩
  · rename_i h5
    rw [val_take_all a' (by omega), val_take_all b' (by omega)] at h4
    have g3 := val_lt h2
    have g9 : c = 0 := by
      refine Nat.le_zero.1 (Nat.le_of_not_lt fun hc => ?_)
      have := Nat.mul_le_mul_right (B ^ l.length) (show 1 ≤ c from hc)
      omega
    subst g9
    rw [trimL_limbs h2, show val l = m - n by omega, decide_eq_true (show n ≤ m by omega)]
    exact leT

theorem times_step {a l : List Nat} {c s x y v by' i : Nat} (ha : WF a) (hl : WF l) (hc : c < B) (hvB : v < B) (hi : l.length = by' + i) (hv : val l + c * B ^ l.length = B ^ by' * (val (a.take i) * v)) (hs : s = a.getD i 0 * v + c) (hx : x = s % 4294967296) (hy : y = s / 4294967296) :
    WF (l ++ [x]) ∧ y < B ∧ val (l ++ [x]) + y * B ^ (l ++ [x]).length = B ^ by' * (val (a.take (i + 1)) * v) := by
  have h1 := ha.getD i
  have h0 : s < B * B := by
    have := Nat.mul_le_mul (Nat.le_sub_one_of_lt h1) (Nat.le_sub_one_of_lt hvB)
    rw [B_val] at *; omega
  refine ⟨hl.snoc (by rw [B_val]; omega), by rw [B_val] at *; omega, ?_⟩
  rw [val_snoc, List.length_append, List.length_singleton, val_take_succ, Nat.pow_succ]
  have h3 : x + y * B = s := by rw [B_val]; omega
  have h4 : B ^ l.length * x + y * (B ^ l.length * B) = B ^ l.length * s := by
    rw [← h3, Nat.mul_add, Nat.mul_comm y B, Nat.mul_comm y, Nat.mul_assoc]
  rw [Nat.add_assoc, h4, hs, Nat.mul_add, Nat.add_mul, Nat.mul_add, ← hv, hi, Nat.pow_add]
  have : B ^ by' * (B ^ i * a.getD i 0 * v) = B ^ by' * B ^ i * (a.getD i 0 * v) := by
    simp only [Nat.mul_assoc]
  rw [this, Nat.mul_comm c]; omega

theorem val_rep (n : Nat) : val (List.replicate n 0) = 0 := by
  induction n with
  | zero => rfl
  | succ n ih => rw [List.replicate_succ, val, ih]; rfl
theorem wf_rep (n : Nat) : WF (List.replicate n 0) := fun x hx => by rw [List.eq_of_mem_replicate hx]; decide

theorem ref01_times (m v k : Nat) (hm : (limbs m).length < 100000000000) (hv : v < 4294967296) (hk : k < 100000000000) : Ret Tryz.prog 161 [u32s (limbs m), .int .u32 v, .int .i64 k] (· = u32s (limbs (m * v * B ^ k))) := by
  have wa := wf_limbs m
  have va := val_limbs m
  generalize limbs m = a at *
  refine ret_of_awp tab Tryz.func161 rfl rfl (Nat.le_of_ble_eq_true rfl) (fun w0 F0 => ?_)
  repeat' (first | refine wG ?_ | refine wS ?_ ?_ <;> intro _ | refine finG ?_)
  refine awp_loop2 (fun (l : List Nat) (c : Nat) => ([(0, .d (u32s a)), (1, .d (.int .u32 v)), (7, .own 12 0 l.length 111 1), (8, .d (.int .u64 c)), (9, .d (.int .i64 (l.length - k)))], [(12, .data 111 1 (eN .u32) 0 l)])) (fun l c => k ≤ l.length ∧ l.length ≤ a.length + k + 1 ∧ WF l ∧ c < B ∧ val l + c * B ^ l.length = B ^ k * (val (a.take (l.length - k)) * v)) (fun l c => a.length + k + 1 - l.length) (List.replicate k 0) 0 ⟨by simp, by simp; omega, wf_rep _, by decide, by simp [val_rep, val]⟩ ⟨rfl, rfl, by simp; rfl, rfl, iv (by simp), rfl⟩ ⟨rfl, trivial⟩ (fun l c hi => ?_)
  obtain ⟨h1, h1', h2, h3, h4⟩ := hi
  have g1 := wa.getD (l.length - k)
  simp only [B_val] at g1 h3
  have g2 : a.getD (l.length - k) 0 * v ≤ 4294967295 * 4294967295 := Nat.mul_le_mul (by omega) (by omega)
  repeat' (first | refine wG ?_ | refine cl 169 tt rfl rfl rfl (hr := ref01_limb _ _ (l.length - k) (by omega) (by omega) wa (by omega) (by omega)) (k := ?_) | refine cl 170 tt rfl rfl rfl (hr := ref01_trim _ (by omega)) (k := ?_) | refine wS ?_ ?_ <;> intro _ | refine finG ?_)
  · rename_i h5
    exact ⟨_, (a.getD (l.length - k) 0 * v + c) / 4294967296, ⟨by simp; omega, by simp; omega, by
      have := times_step (a := a) (i := l.length - k) (by' := k) wa h2 h3 hv (by omega) h4 rfl rfl rfl
      rw [show l.length - k + 1 = (l ++ [(a.getD (l.length - k) 0 * v + c) % 4294967296]).length - k by simp; omega] at this
      rw [show (((a.getD (l.length - k) 0 : Nat) * (v : Nat) + (c : Nat) : Int) % 4294967296).toNat = (a.getD (l.length - k) 0 * v + c) % 4294967296 by omega]
      exact this⟩, by simp; omega, ⟨rfl, rfl, rfl, iv (by omega), iv (by simp; omega), rfl⟩, rfl, trivial⟩
  · rename_i h5
    rw [val_take_all a (by omega)] at h4
    have g3 := val_lt wa
    have g9 : c = 0 := by
      refine Nat.le_zero.1 (Nat.le_of_not_lt fun hc => ?_)
      have h6 := Nat.mul_le_mul_right (B ^ l.length) (show 1 ≤ c from hc)
      have h7 : val a * v < B ^ a.length * B := Nat.mul_lt_mul_of_lt_of_le g3 (by rw [B_val]; omega) (by decide)
      have h8 := Nat.mul_lt_mul_of_pos_left h7 (Nat.pow_pos (n := k) (show 0 < B by decide))
      rw [← Nat.pow_succ, ← Nat.pow_add, show k + a.length.succ = l.length by omega] at h8
      omega
    subst g9
    rw [trimL_limbs h2, ← va, show val l = val a * v * B ^ k by rw [Nat.mul_comm _ (B ^ k)]; omega]

theorem mul_len {m n k l : Nat} (h : ln m ≤ k) (h2 : ln n ≤ l) : ln (m * n) ≤ k + l := Nat.le_trans (ln_mul m n) (by omega)

theorem ref01_TakeN (n : Nat) (h : (limbs n).length < 1000000000000) : Ret Tryz.prog 122 [u32s (limbs n)] (· = u32s (limbs n)) := by
  have := ref01_Take (limbs n) (by omega)
  rw [takeL_of] at this
  exact this
theorem ref01_TakeV (l : List Nat) (wl : WF l) (h : l.length < 1000000000000) : Ret Tryz.prog 122 [u32s l] (· = u32s (limbs (nv l))) := by
  have := ref01_Take l (by omega)
  rw [takeL_limbs wl] at this
  exact this
theorem ref01_AddN (m n : Nat) (hm : (limbs m).length < 1000000000000) (hn : (limbs n).length < 1000000000000) : Ret Tryz.prog 128 [u32s (limbs m), u32s (limbs n)] (· = u32s (limbs (m + n))) := by
  have := ref01_Add (limbs m) (limbs n) hm hn (wf_limbs m) (wf_limbs n)
  rw [nv_limbs, nv_limbs] at this
  exact this
theorem ref01_SubN (m n : Nat) (hm : (limbs m).length < 1000000000000) (hn : (limbs n).length < 1000000000000) : Ret Tryz.prog 129 [u32s (limbs m), u32s (limbs n)] (· = .tup [u32s (limbs (m - n)), .bool (decide (n ≤ m))]) := by
  have := ref01_Sub (limbs m) (limbs n) hm hn (wf_limbs m) (wf_limbs n)
  rw [nv_limbs, nv_limbs] at this
  exact this

theorem ref01_Mul (a b : List Nat) (hla : a.length < 10000000000) (hlb : b.length < 10000000000) (wa : WF a) (wb : WF b) : Ret Tryz.prog 116 [u32s a, u32s b] (· = u32s (limbs (nv a * nv b))) := by
  have la := length_limbs_nv wa
  have lb := length_limbs_nv wb
  have ta := ref01_TakeV a wa (by omega)
  have tb := ref01_TakeV b wb (by omega)
  generalize nv a = m at *
  generalize nv b = n at *
  have wb' := wf_limbs n
  have vb := val_limbs n
  generalize limbs n = b' at *
  refine ret_of_awp tab Tryz.func116 rfl rfl (Nat.le_of_ble_eq_true rfl) (fun w0 F0 => ?_)
  repeat' (first | refine wG ?_ | refine wC ta ?_ | refine wC tb ?_ | refine wS ?_ ?_ <;> intro _ | refine finG ?_)
  refine awp_nils 5 1 (eN .u32) 0 rfl ?_
  refine awp_loop1 (fun (i : Nat) => ([(0, .d (u32s (limbs m))), (1, .d (u32s b')), (5, .d (u32s (limbs (m * val (b'.take i))))), (6, .d (.int .i64 i))], [])) (fun i => i ≤ b'.length) (fun i => b'.length - i) 0 (by simp) ⟨rfl, rfl, by simp [val, limbs_zero]; rfl, rfl, rfl⟩ trivial (fun i hi => ?_)
  have g1 := wb'.getD i
  simp only [B_val] at g1
  have g2 : ln (val (b'.take i)) ≤ b'.length := by
    refine ln_le (Nat.lt_of_lt_of_le (val_lt (wb'.take i)) (Nat.pow_le_pow_right (by decide) ?_))
    simp; omega
  have g3 := mul_len (m := m) (Nat.le_refl _) g2
  have g4 := mul_len (mul_len (m := m) (Nat.le_refl _) (ln_small (by rw [B_val]; exact g1))) (ln_le (n := B ^ i) (k := i + 1) (by rw [Nat.pow_succ]; have := Nat.pow_pos (n := i) (show 0 < B by decide); rw [B_val] at *; omega))
  simp only [ln] at *
  repeat' (first | refine wG ?_ | refine cl 161 tt rfl rfl rfl (hr := ref01_times _ _ _ (by omega) (by omega) (by omega)) (k := ?_) | refine cl 128 tt rfl rfl rfl (hr := ref01_AddN _ _ (by omega) (by omega)) (k := ?_) | refine wS ?_ ?_ <;> intro _ | refine finG ?_)
  · refine ⟨i + 1, by omega, by omega, ⟨rfl, rfl, ?_, iv (by simp), rfl⟩, trivial⟩
    rw [val_take_succ, Nat.mul_add, Nat.mul_assoc, Nat.mul_comm (b'.getD i 0)]; rfl
  · rw [val_take_all b' (by omega), vb]
theorem ref01_MulN (m n : Nat) (hm : (limbs m).length < 10000000000) (hn : (limbs n).length < 10000000000) : Ret Tryz.prog 116 [u32s (limbs m), u32s (limbs n)] (· = u32s (limbs (m * n))) := by
  have := ref01_Mul (limbs m) (limbs n) hm hn (wf_limbs m) (wf_limbs n)
  rw [nv_limbs, nv_limbs] at this
  exact this

theorem two_limbs (v : Nat) (h : v < 18446744073709551616) : trimL [v % 4294967296, v / 4294967296] = limbs v := by
  rw [trimL_limbs]
  · congr 1; simp only [val, B_val]; omega
  · intro x hx; simp at hx; rw [B_val]; omega
theorem ref01_FromUint (v : Nat) (h : v < 18446744073709551616) : Ret Tryz.prog 130 [.int .u64 v] (· = u32s (limbs v)) := by
  have ht := ref01_trim [v % 4294967296, v / 4294967296] (by simp)
  rw [two_limbs v h] at ht
  refine ret_of_awp tab Tryz.func130 rfl rfl (Nat.le_of_ble_eq_true rfl) (fun w0 F0 => ?_)
  repeat' (first | refine wG ?_ | refine wC ht ?_ | refine wS ?_ ?_ <;> intro _ | refine finG ?_)
  rfl
theorem ref01_bit (m i : Nat) (hm : (limbs m).length < 1000000000000) (hi : i < 32 * (limbs m).length) : Ret Tryz.prog 196 [u32s (limbs m), .int .i64 i] (· = .int .u32 (m / 2 ^ i % 2 : Nat)) := by
  have e0 : (((limbs m).getD (i / 32) 0 : Nat) : Int) / 2 ^ ((i : Int) % 32).toNat = (((limbs m).getD (i / 32) 0 / 2 ^ (i % 32) : Nat) : Int) := by
    rw [show ((i : Int) % 32).toNat = i % 32 by omega]; simp
  have e1 : (limbs m).getD (i / 32) 0 / 2 ^ (i % 32) < 4294967296 := Nat.lt_of_le_of_lt (Nat.div_le_self _ _) ((wf_limbs m).getD _)
  refine ret_of_awp tab Tryz.func196 rfl rfl (Nat.le_of_ble_eq_true rfl) (fun w0 F0 => ?_)
  repeat' (first | refine wG ?_ | refine wS ?_ ?_ <;> intro _ | refine finG ?_)
  rw [e0]
  have e2 := bit_of_limb m i
  generalize (limbs m).getD (i / 32) 0 / 2 ^ (i % 32) = q at *
  repeat' (first | refine wG ?_ | refine wS ?_ ?_ <;> intro _ | refine finG ?_)
  rw [Int.toNat_natCast, show (1 : Int).toNat = 2 ^ 1 - 1 from rfl, Nat.and_two_pow_sub_one_eq_mod, ← e2]
theorem ref01_double (m o : Nat) (hm : (limbs m).length < 10000000000) (ho : o ≤ 1) : Ret Tryz.prog 195 [u32s (limbs m), .int .u32 o] (· = u32s (limbs (2 * m + o))) := by
  have h1 : (limbs (m * 2 * B ^ 0)).length ≤ (limbs m).length + 1 := by
    have := ln_mul m 2
    have := ln_small (n := 2) (by decide)
    simp only [ln] at *
    simp only [Nat.pow_zero, Nat.mul_one]
    omega
  have a1 := ref01_AddN (m * 2 * B ^ 0) 1 (by omega) (by have := ln_one; simp only [ln] at this; omega)
  rw [show limbs 1 = [1] from limbs_small (by decide) (by decide)] at a1
  refine ret_of_awp tab Tryz.func195 rfl rfl (Nat.le_of_ble_eq_true rfl) (fun w0 F0 => ?_)
  repeat' (first | refine wG ?_ | refine cl 161 tt rfl rfl rfl (hr := ref01_times _ 2 0 (by omega) (by omega) (by omega)) (k := ?_) | refine wC a1 ?_ | refine wS ?_ ?_ <;> intro _ | refine finG ?_)
  · rw [Nat.pow_zero, Nat.mul_one, Nat.mul_comm m, show o = 1 by omega]
  · rw [Nat.pow_zero, Nat.mul_one, Nat.mul_comm m, show o = 0 by omega, Nat.add_zero]
end Go.Proofs.YtejigedigmagdaaGreat

set_option maxHeartbeats 8000000
namespace Go.Proofs.YtejigedigmagdaaGreat
open Go.Vw
attribute [local irreducible] awp awpL awpR

theorem len_bound {a b : Nat} (h : a ≤ b) {k : Nat} (hb : (limbs b).length < k) : (limbs a).length < k := Nat.lt_of_le_of_lt (limbs_len_mono h) hb
theorem len_double {a b k : Nat} (h : a ≤ 2 * b + 1) (hb : (limbs b).length < k) : (limbs a).length < k + 1 := by
  have h1 := ln_add b (b + 1)
  have h2 := ln_add1 (m := b) (n := b) (Nat.le_refl _) (Nat.le_refl _)
  have h3 := ln_add1 (m := b) (n := b + 1) (k := (limbs b).length + 1)
  have h4 : a < B ^ (ln b + 1) := by
    have := lt_ln b
    rw [Nat.pow_succ]
    have : B ^ ln b * 2 ≤ B ^ ln b * B := Nat.mul_le_mul_left _ (by decide)
    omega
  have := ln_le h4
  simp only [ln] at this
  omega

theorem lv {a b : Nat} (h : a = b) : V.d (u32s (limbs a)) = V.d (u32s (limbs b)) := by rw [h]
theorem ref01_bitI (m j : Nat) (i : Int) (h : i = j) (hm : (limbs m).length < 1000000000000) (hi : j < 32 * (limbs m).length) : Ret Tryz.prog 196 [u32s (limbs m), .int .i64 i] (· = .int .u32 (m / 2 ^ j % 2 : Nat)) := by
  subst h; exact ref01_bit m j hm hi
theorem div_step {x y n o : Nat} (h0 : n ≠ 0) (h : y = 2 * x + o) (ho : o ≤ 1) : (n ≤ 2 * (x % n) + o → 2 * (x % n) + o - n = y % n ∧ 2 * (x / n) + 1 = y / n) ∧ (¬ n ≤ 2 * (x % n) + o → 2 * (x % n) + o = y % n ∧ 2 * (x / n) + 0 = y / n) := by
  have hp := Nat.pos_of_ne_zero h0
  have hx := Nat.div_add_mod x n
  have hr := Nat.mod_lt x hp
  have e : y = n * (2 * (x / n)) + (2 * (x % n) + o) := by
    have : n * (2 * (x / n)) = 2 * (n * (x / n)) := by rw [Nat.mul_left_comm]
    omega
  constructor <;> intro hc
  · have e2 : y = (2 * (x % n) + o - n) + n * (2 * (x / n) + 1) := by rw [Nat.mul_add]; omega
    have l1 : 2 * (x % n) + o - n < n := by omega
    have h1 : y % n = 2 * (x % n) + o - n := by rw [e2, Nat.add_mul_mod_self_left]; exact Nat.mod_eq_of_lt l1
    have h2 : y / n = 2 * (x / n) + 1 := by rw [e2, Nat.add_mul_div_left _ _ hp, Nat.div_eq_of_lt l1, Nat.zero_add]
    exact ⟨h1.symm, h2.symm⟩
  · have e2 : y = (2 * (x % n) + o) + n * (2 * (x / n)) := by omega
    have l1 : 2 * (x % n) + o < n := by omega
    have h1 : y % n = 2 * (x % n) + o := by rw [e2, Nat.add_mul_mod_self_left]; exact Nat.mod_eq_of_lt l1
    have h2 : y / n = 2 * (x / n) := by rw [e2, Nat.add_mul_div_left _ _ hp, Nat.div_eq_of_lt l1, Nat.zero_add]
    exact ⟨h1.symm, h2.symm⟩
theorem ref01_DivN (m n : Nat) (hm : (limbs m).length < 1000000000) (hn : (limbs n).length < 1000000000) (h0 : n ≠ 0) : Ret Tryz.prog 168 [u32s (limbs m), u32s (limbs n)] (· = .tup [u32s (limbs (m / n)), u32s (limbs (m % n)), .bool true]) := by
  have hl : 0 < (limbs n).length := List.length_pos_iff.2 (mt limbs_eq_nil.1 h0)
  have hz := div_bits_zero m
  simp only [ln] at hz
  refine ret_of_awp tab Tryz.func168 rfl rfl (Nat.le_of_ble_eq_true rfl) (fun w0 F0 => ?_)
  repeat' (first | refine wG ?_ | refine cl 122 tt rfl rfl rfl (hr := ref01_TakeN _ (by omega)) (k := ?_) | refine wS ?_ ?_ <;> intro _ | refine finG ?_)
  refine awp_nils 7 1 (eN .u32) 0 rfl ?_
  refine awp_nils 8 1 (eN .u32) 0 rfl ?_
  refine awp_loop1 (fun (k : Nat) => ([(0, .d (u32s (limbs m))), (1, .d (u32s (limbs n))), (7, .d (u32s (limbs (m / 2 ^ k / n)))), (8, .d (u32s (limbs (m / 2 ^ k % n)))), (9, .d (.int .i64 ((k : Int) - 1)))], [])) (fun k => k ≤ 32 * (limbs m).length) (fun k => k) (32 * (limbs m).length) (Nat.le_refl _) ⟨rfl, rfl, by rw [hz, Nat.zero_div, limbs_zero]; rfl, by rw [hz, Nat.zero_mod, limbs_zero]; rfl, iv (by simp), rfl⟩ trivial (fun k hi => ?_)
  have e1 : ((k : Int) - 1) = ((k - 1 : Nat) : Int) ∨ k = 0 := by omega
  have e2 := div_pow_step m k
  have hq : m / 2 ^ k ≤ m := Nat.div_le_self _ _
  have hq' : m / 2 ^ k / n ≤ m := Nat.le_trans (Nat.div_le_self _ _) hq
  have hr := Nat.mod_lt (m / 2 ^ k) (Nat.pos_of_ne_zero h0)
  have b1 := len_bound hq' hm
  have b2 := len_bound (Nat.le_of_lt hr) hn
  have b3 := len_double (a := 2 * (m / 2 ^ k % n) + m / 2 ^ (k - 1) % 2) (b := m / 2 ^ k % n) (by omega) b2
  have e3 : 0 < k → _ := fun hk => div_step (x := m / 2 ^ k) (y := m / 2 ^ (k - 1)) (o := m / 2 ^ (k - 1) % 2) h0 (e2 hk) (by omega)
  repeat' (first | refine wG ?_ | refine cl 196 tt rfl rfl rfl (hr := ref01_bitI _ (k - 1) _ (by omega) (by omega) (by omega)) (k := ?_) | refine cl 195 tt rfl rfl rfl (hr := ref01_double _ _ (by omega) (by omega)) (k := ?_) | refine cl 195 tt rfl rfl rfl (hr := ref01_double _ 1 (by omega) (by omega)) (k := ?_) | refine cl 195 tt rfl rfl rfl (hr := ref01_double _ 0 (by omega) (by omega)) (k := ?_) | refine cl 129 tt rfl rfl rfl (hr := ref01_SubN _ _ (by omega) (by omega)) (k := ?_) | refine wS ?_ ?_ <;> intro _ | refine finTG ?_)
  · rename_i hk hc
    obtain ⟨g1, g2⟩ := (e3 (by omega)).1 hc
    exact ⟨k - 1, by omega, by omega, ⟨rfl, rfl, lv g2, lv g1, iv (by omega), rfl⟩, trivial⟩
  · rename_i hk hc
    obtain ⟨g1, g2⟩ := (e3 (by omega)).2 hc
    exact ⟨k - 1, by omega, by omega, ⟨rfl, rfl, lv g2, lv g1, iv (by omega), rfl⟩, trivial⟩
  · have : k = 0 := by omega
    subst this
    rw [Nat.pow_zero, Nat.div_one]; exact leT

theorem ref01_Gcd (a b : List Nat) (hla : a.length < 100000000) (hlb : b.length < 100000000) (wa : WF a) (wb : WF b) : Ret Tryz.prog 160 [u32s a, u32s b] (· = u32s (limbs (Nat.gcd (nv a) (nv b)))) := by
  have la := length_limbs_nv wa
  have lb := length_limbs_nv wb
  have ta := ref01_TakeV a wa (by omega)
  have tb := ref01_TakeV b wb (by omega)
  generalize nv a = m at *
  generalize nv b = n at *
  refine ret_of_awp tab Tryz.func160 rfl rfl (Nat.le_of_ble_eq_true rfl) (fun w0 F0 => ?_)
  repeat' (first | refine wG ?_ | refine wC ta ?_ | refine wC tb ?_ | refine wS ?_ ?_ <;> intro _ | refine finG ?_)
  refine awp_loop2 (fun (x y : Nat) => ([(0, .d (u32s (limbs x))), (1, .d (u32s (limbs y)))], [])) (fun x y => (limbs x).length < 1000000000 ∧ (limbs y).length < 1000000000 ∧ Nat.gcd x y = Nat.gcd m n) (fun x y => y) m n ⟨by omega, by omega, rfl⟩ ⟨rfl, rfl, rfl⟩ trivial (fun x y hi => ?_)
  obtain ⟨h1, h2, h3⟩ := hi
  by_cases h0 : y = 0
  · subst h0
    have e : (limbs 0).length = 0 := by rw [limbs_zero]; rfl
    repeat' (first | refine wG ?_ | refine wS ?_ ?_ <;> intro _ | refine finG ?_)
    rw [← h3, Nat.gcd_zero_right]
  · have e : 0 < (limbs y).length := List.length_pos_iff.2 (mt limbs_eq_nil.1 h0)
    repeat' (first | refine wG ?_ | refine cl 168 tt rfl rfl rfl (hr := ref01_DivN _ _ (by omega) (by omega) h0) (k := ?_) | refine wS ?_ ?_ <;> intro _ | refine finG ?_)
    have hr := Nat.mod_lt x (Nat.pos_of_ne_zero h0)
    exact ⟨y, x % y, ⟨h2, len_bound (Nat.le_of_lt hr) h2, by rw [← h3, Nat.gcd_comm y, ← Nat.gcd_rec, Nat.gcd_comm]⟩, hr, ⟨rfl, rfl, rfl⟩, trivial⟩
theorem ref01_GcdN (m n : Nat) (hm : (limbs m).length < 100000000) (hn : (limbs n).length < 100000000) : Ret Tryz.prog 160 [u32s (limbs m), u32s (limbs n)] (· = u32s (limbs (Nat.gcd m n))) := by
  have := ref01_Gcd (limbs m) (limbs n) hm hn (wf_limbs m) (wf_limbs n)
  rw [nv_limbs, nv_limbs] at this
  exact this

theorem take_succ_eq {a b : List Nat} {i : Nat} (h : a.take i = b.take i) (h1 : i < a.length) (h2 : i < b.length) (e : a.getD i 0 = b.getD i 0) : a.take (i + 1) = b.take (i + 1) := by
  rw [List.take_add_one, List.take_add_one, h]
  simp [List.getD, h1, h2] at e
  simp [h1, h2, e]
theorem ref01_Same (a b : List Nat) (hla : a.length < 10000000000000) (hlb : b.length < 10000000000000) : Ret Tryz.prog 76 [u32s a, u32s b] (· = .bool (decide (a = b))) := by
  refine ret_of_awp tab Tryz.func76 rfl rfl (Nat.le_of_ble_eq_true rfl) (fun w0 F0 => ?_)
  repeat' (first | refine wG ?_ | refine rg 6 8 ?_ | refine wS ?_ ?_ <;> intro _ | refine finG ?_)
  · rename_i h
    rw [decide_eq_false (fun e => h (by rw [e]))]
  rename_i h
  refine awp_loop1 (fun (i : Nat) => ([(0, .d (u32s a)), (1, .d (u32s b)), (5, .d (.int .i64 i))], [])) (fun i => i ≤ a.length ∧ a.take i = b.take i) (fun i => a.length - i) 0 ⟨by simp, by simp⟩ ⟨rfl, rfl, rfl, rfl⟩ trivial (fun i hi => ?_)
  obtain ⟨h1, h2⟩ := hi
  repeat' (first | refine wG ?_ | refine rg 6 8 ?_ | refine wS ?_ ?_ <;> intro _ | refine finG ?_)
  · rename_i h3 h4
    rw [decide_eq_false (fun e => h4 (by rw [e]))]
  · rename_i h3 h4
    exact ⟨i + 1, ⟨by omega, take_succ_eq h2 (by omega) (by omega) (by omega)⟩, by omega, ⟨rfl, rfl, iv (by omega), rfl⟩, trivial⟩
  · rw [List.take_of_length_le (by omega), List.take_of_length_le (by omega)] at h2
    rw [decide_eq_true h2]
end Go.Proofs.YtejigedigmagdaaGreat

/-
  Integers and rational numbers as the program holds them. Conditions: none.
-/
namespace Go.Vw

def intC (neg : Bool) (mag : List Nat) : D := .agg [.bool neg, u32s mag]
def zD (z : Int) : D := intC (decide (z < 0)) (limbs z.natAbs)
def validI (neg : Bool) (mag : List Nat) : Bool := valid mag && !(neg && decide (mag.length = 0))
def iv' (neg : Bool) (mag : List Nat) : Int := if validI neg mag then (if neg then -(val mag : Int) else val mag) else 0

theorem validI_z (z : Int) : validI (decide (z < 0)) (limbs z.natAbs) = true := by
  unfold validI
  rw [valid_limbs, Bool.true_and, Bool.not_eq_true', Bool.and_eq_false_iff]
  by_cases h : z < 0
  · right
    have h0 : z.natAbs ≠ 0 := by omega
    exact decide_eq_false (mt (fun e => limbs_eq_nil.1 (List.length_eq_zero_iff.1 e)) h0)
  · left; exact decide_eq_false h
theorem iv'_z (z : Int) : iv' (decide (z < 0)) (limbs z.natAbs) = z := by
  unfold iv'
  rw [if_pos (validI_z z), val_limbs]
  by_cases h : z < 0
  · simp [h]; omega
  · simp [h]; omega
theorem intC_valid {neg : Bool} {mag : List Nat} (h : WF mag) (hv : validI neg mag = true) : intC neg mag = zD (iv' neg mag) := by
  unfold iv' zD
  rw [if_pos hv]
  unfold validI at hv
  rw [Bool.and_eq_true] at hv
  obtain ⟨h1, h2⟩ := hv
  have hl := limbs_val h h1
  cases neg with
  | true =>
    simp at h2
    have h0 : val mag ≠ 0 := fun e => h2 (by rw [← hl, e, limbs_zero])
    have e1 : (-(val mag : Int)).natAbs = val mag := by omega
    simp only [if_true]
    rw [e1, hl, decide_eq_true (by omega)]
  | false =>
    have e1 : ((val mag : Int)).natAbs = val mag := by omega
    simp only [Bool.false_eq_true, if_false]
    rw [e1, hl, decide_eq_false (by omega)]
theorem zD_zero : zD 0 = .agg [.bool false, u32s []] := by
  show intC _ (limbs 0) = _
  rw [limbs_zero]; rfl
theorem iv'_abs (neg : Bool) (mag : List Nat) : (iv' neg mag).natAbs = if validI neg mag then val mag else 0 := by
  unfold iv'; split
  · cases neg <;> simp
  · rfl
theorem iv'_len {neg : Bool} {mag : List Nat} (h : WF mag) : (limbs (iv' neg mag).natAbs).length ≤ mag.length := by
  rw [iv'_abs]; split
  · exact length_limbs_le (val_lt h)
  · rw [limbs_zero]; simp
theorem signed_z (neg : Bool) (n : Nat) : D.agg [.bool (neg && decide (0 < (limbs n).length)), u32s (limbs n)] = zD (if neg then -(n : Int) else n) := by
  unfold zD intC
  cases neg with
  | true =>
    simp only [if_true, Bool.true_and, Int.natAbs_neg, Int.natAbs_natCast]
    congr 3
    by_cases h : n = 0
    · subst h; simp [limbs_zero]
    · have := List.length_pos_iff.2 (mt limbs_eq_nil.1 h)
      rw [decide_eq_decide]; omega
  | false =>
    have : ¬ ((n : Int) < 0) := by omega
    simp [this]
theorem zD_cases (z : Int) : ∃ s n, zD z = .agg [.bool s, u32s (limbs n)] ∧ z = (if s then -(n : Int) else n) ∧ z.natAbs = n ∧ (s = true → n ≠ 0) := by
  refine ⟨decide (z < 0), z.natAbs, rfl, ?_, rfl, ?_⟩
  · by_cases h : z < 0
    · simp [h]; omega
    · simp [h]; omega
  · intro h; have := of_decide_eq_true h; omega
structure IntOk (neg : Bool) (mag : List Nat) (k : Nat) : Prop where
  wf : WF mag
  len : mag.length < k
theorem IntOk.z {z : Int} {k : Nat} (h : (limbs z.natAbs).length < k) : IntOk (decide (z < 0)) (limbs z.natAbs) k := ⟨wf_limbs _, h⟩
theorem IntOk.val {neg : Bool} {mag : List Nat} {k : Nat} (h : IntOk neg mag k) : (limbs (iv' neg mag).natAbs).length < k := Nat.lt_of_le_of_lt (iv'_len h.wf) h.len
end Go.Vw

set_option maxHeartbeats 8000000
namespace Go.Proofs.YtejigedigmagdaaGreat
open Go.Vw
attribute [local irreducible] awp awpL awpR

theorem ref02_Valid (neg : Bool) (mag : List Nat) (hl : mag.length < 10000000000000) : Ret Tryz.prog 158 [intC neg mag] (· = .bool (validI neg mag)) := by
  have hv := ref01_Valid mag hl
  unfold validI
  generalize valid mag = v at *
  cases v <;> cases neg
  · refine ret_of_awp tab Tryz.func158 rfl rfl (Nat.le_of_ble_eq_true rfl) (fun w0 F0 => ?_)
    repeat' (first | refine wG ?_ | refine wC hv ?_ | refine wS ?_ ?_ <;> intro _ | refine finG ?_)
    rfl
  · refine ret_of_awp tab Tryz.func158 rfl rfl (Nat.le_of_ble_eq_true rfl) (fun w0 F0 => ?_)
    repeat' (first | refine wG ?_ | refine wC hv ?_ | refine wS ?_ ?_ <;> intro _ | refine finG ?_)
    rfl
  · refine ret_of_awp tab Tryz.func158 rfl rfl (Nat.le_of_ble_eq_true rfl) (fun w0 F0 => ?_)
    repeat' (first | refine wG ?_ | refine wC hv ?_ | refine wS ?_ ?_ <;> intro _ | refine finG ?_)
    rfl
  · refine ret_of_awp tab Tryz.func158 rfl rfl (Nat.le_of_ble_eq_true rfl) (fun w0 F0 => ?_)
    repeat' (first | refine wG ?_ | refine wC hv ?_ | refine wS ?_ ?_ <;> intro _ | refine finG ?_)
    simp

theorem ref02_Take (neg : Bool) (mag : List Nat) (wm : WF mag) (hl : mag.length < 1000000000000) : Ret Tryz.prog 121 [intC neg mag] (· = zD (iv' neg mag)) := by
  have hv := ref02_Valid neg mag (by omega)
  have ht := ref01_Take mag (by omega)
  cases h : validI neg mag with
  | false =>
    rw [h] at hv
    rw [show iv' neg mag = 0 from by simp [iv', h]]
    refine ret_of_awp tab Tryz.func121 rfl rfl (Nat.le_of_ble_eq_true rfl) (fun w0 F0 => ?_)
    rw [zD_zero]
    repeat' (first | refine wG ?_ | refine wC hv ?_ | refine rg 3 5 ?_ | refine wS ?_ ?_ <;> intro _ | (show retPost _ _ _ _ _; first | refine finF true rfl rfl sc ?_ | refine finF false rfl rfl sc ?_ | refine finC false rfl rfl sc sc ?_ | refine finN rfl rfl sc ?_ | refine finL true rfl rfl sc rfl (LeR.cons rfl leL LeR.nil) ?_ | refine finA true rfl rfl sc ?_ | refine finA false rfl rfl sc ?_ | refine finE true rfl rfl sc ?_ | refine finE false rfl rfl sc ?_))
    exact leL
  | true =>
    rw [h] at hv
    rw [← intC_valid wm h]
    rw [show takeL mag = mag from by
      unfold validI at h; rw [Bool.and_eq_true] at h; simp [takeL, h.1]] at ht
    refine ret_of_awp tab Tryz.func121 rfl rfl (Nat.le_of_ble_eq_true rfl) (fun w0 F0 => ?_)
    repeat' (first | refine wG ?_ | refine wC hv ?_ | refine wC ht ?_ | refine rg 3 5 ?_ | refine wS ?_ ?_ <;> intro _ | refine finG ?_)
    rfl
theorem ref02_signed (neg : Bool) (n : Nat) (hl : (limbs n).length < 1000000000000) : Ret Tryz.prog 127 [.bool neg, u32s (limbs n)] (· = zD (if neg then -(n : Int) else n)) := by
  rw [← signed_z]
  cases neg with
  | false => 
    refine ret_of_awp tab Tryz.func127 rfl rfl (Nat.le_of_ble_eq_true rfl) (fun w0 F0 => ?_)
    repeat' (first | refine wG ?_ | refine wS ?_ ?_ <;> intro _ | refine finG ?_)
    rfl
  | true =>
    refine ret_of_awp tab Tryz.func127 rfl rfl (Nat.le_of_ble_eq_true rfl) (fun w0 F0 => ?_)
    repeat' (first | refine wG ?_ | refine wS ?_ ?_ <;> intro _ | refine finG ?_)
    simp; rfl

theorem ref02_TakeZ (z : Int) (hl : (limbs z.natAbs).length < 1000000000000) : Ret Tryz.prog 121 [zD z] (· = zD z) := by
  have := ref02_Take (decide (z < 0)) (limbs z.natAbs) (wf_limbs _) hl
  rw [iv'_z] at this
  exact this

theorem ref02_Sign (neg : Bool) (mag : List Nat) (h : IntOk neg mag 1000000000000) : Ret Tryz.prog 82 [intC neg mag] (· = .int .i64 (iv' neg mag).sign) := by
  have ht := ref02_Take neg mag h.wf h.len
  generalize iv' neg mag = z at *
  obtain ⟨s, n, e1, e2, e3, e4⟩ := zD_cases z
  rw [e1] at ht
  cases s with
  | true =>
    have h0 := e4 rfl
    have : z.sign = -1 := Int.sign_eq_neg_one_of_neg (by simp at e2; omega)
    rw [this]
    refine ret_of_awp tab Tryz.func82 rfl rfl (Nat.le_of_ble_eq_true rfl) (fun w0 F0 => ?_)
    repeat' (first | refine wG ?_ | refine wC ht ?_ | refine wS ?_ ?_ <;> intro _ | refine finG ?_)
    rfl
  | false =>
    simp at e2
    refine ret_of_awp tab Tryz.func82 rfl rfl (Nat.le_of_ble_eq_true rfl) (fun w0 F0 => ?_)
    repeat' (first | refine wG ?_ | refine wC ht ?_ | refine wS ?_ ?_ <;> intro _ | refine finG ?_)
    · rename_i hp
      have : z.sign = 1 := Int.sign_eq_one_of_pos (by
        have : n ≠ 0 := fun e => by subst e; rw [limbs_zero] at hp; simp at hp
        omega)
      rw [this]
    · rename_i hp
      have : n = 0 := limbs_eq_nil.1 (List.length_eq_zero_iff.1 (by omega))
      subst this
      rw [e2]; rfl

theorem ref02_Neg (neg : Bool) (mag : List Nat) (h : IntOk neg mag 1000000000000) : Ret Tryz.prog 123 [intC neg mag] (· = zD (-iv' neg mag)) := by
  have ht := ref02_Take neg mag h.wf h.len
  have hl := h.val
  generalize iv' neg mag = z at *
  obtain ⟨s, n, e1, e2, e3, e4⟩ := zD_cases z
  rw [e1] at ht
  rw [e3] at hl
  cases s with
  | true =>
    have : -z = n := by simp at e2; omega
    rw [this]
    refine ret_of_awp tab Tryz.func123 rfl rfl (Nat.le_of_ble_eq_true rfl) (fun w0 F0 => ?_)
    repeat' (first | refine wG ?_ | refine wC ht ?_ | refine cl 127 tt rfl rfl rfl (hr := ref02_signed false _ (by omega)) (k := ?_) | refine wS ?_ ?_ <;> intro _ | refine finG ?_)
    rfl
  | false =>
    have : -z = -(n : Int) := by simp at e2; omega
    rw [this]
    refine ret_of_awp tab Tryz.func123 rfl rfl (Nat.le_of_ble_eq_true rfl) (fun w0 F0 => ?_)
    repeat' (first | refine wG ?_ | refine wC ht ?_ | refine cl 127 tt rfl rfl rfl (hr := ref02_signed true _ (by omega)) (k := ?_) | refine wS ?_ ?_ <;> intro _ | refine finG ?_)
    rfl

theorem ref02_Add (n1 n2 : Bool) (m1 m2 : List Nat) (h1 : IntOk n1 m1 100000000000) (h2 : IntOk n2 m2 100000000000) : Ret Tryz.prog 72 [intC n1 m1, intC n2 m2] (· = zD (iv' n1 m1 + iv' n2 m2)) := by
  have ta := ref02_Take n1 m1 h1.wf (Nat.lt_trans h1.len (by decide))
  have tb := ref02_Take n2 m2 h2.wf (Nat.lt_trans h2.len (by decide))
  have la := h1.val
  have lb := h2.val
  generalize iv' n1 m1 = x at *
  generalize iv' n2 m2 = y at *
  obtain ⟨s, a, e1, e2, e3, e4⟩ := zD_cases x
  obtain ⟨t, b, f1, f2, f3, f4⟩ := zD_cases y
  rw [e1] at ta
  rw [f1] at tb
  rw [e3] at la
  rw [f3] at lb
  have ladd := ln_add a b
  have ls := len_bound (Nat.sub_le a b) la
  have ls' := len_bound (Nat.sub_le b a) lb
  simp only [ln] at ladd
  cases s <;> cases t
  · refine ret_of_awp tab Tryz.func72 rfl rfl (Nat.le_of_ble_eq_true rfl) (fun w0 F0 => ?_)
    repeat' (first | refine wG ?_ | refine wC ta ?_ | refine wC tb ?_ | refine cl 129 tt rfl rfl rfl (hr := ref01_SubN _ _ (by omega) (by omega)) (k := ?_) | refine clR 129 tt rfl rfl rfl (hr := ref01_SubN _ _ (by omega) (by omega)) (k := ?_) | refine cl 127 tt rfl rfl rfl (hr := ref02_signed _ _ (by omega)) (k := ?_) | refine clR 127 tt rfl rfl rfl (hr := ref02_signed _ _ (by omega)) (k := ?_) | refine cl 128 tt rfl rfl rfl (hr := ref01_AddN _ _ (by omega) (by omega)) (k := ?_) | refine clR 128 tt rfl rfl rfl (hr := ref01_AddN _ _ (by omega) (by omega)) (k := ?_) | refine cl 127 tt rfl rfl rfl (hr := ref02_signed false _ (by omega)) (k := ?_) | refine clR 127 tt rfl rfl rfl (hr := ref02_signed false _ (by omega)) (k := ?_) | refine rg 1 3 ?_ | refine rg 3 7 ?_ | refine wS ?_ ?_ <;> intro _ | refine finG ?_)
    show _ = zD _
    rw [e2, f2, show ((if false = true then -(a : Int) else a) + (if false = true then -(b : Int) else b) : Int) = (if false = true then -((a + b : Nat) : Int) else ((a + b : Nat) : Int)) by simp; try omega]; rfl
  · refine ret_of_awp tab Tryz.func72 rfl rfl (Nat.le_of_ble_eq_true rfl) (fun w0 F0 => ?_)
    repeat' (first | refine wG ?_ | refine wC ta ?_ | refine wC tb ?_ | refine cl 129 tt rfl rfl rfl (hr := ref01_SubN _ _ (by omega) (by omega)) (k := ?_) | refine clR 129 tt rfl rfl rfl (hr := ref01_SubN _ _ (by omega) (by omega)) (k := ?_) | refine cl 127 tt rfl rfl rfl (hr := ref02_signed _ _ (by omega)) (k := ?_) | refine clR 127 tt rfl rfl rfl (hr := ref02_signed _ _ (by omega)) (k := ?_) | refine rg 1 3 ?_ | refine rg 3 7 ?_ | refine wS ?_ ?_ <;> intro _ | refine finG ?_)
    · refine congrArg zD ?_
      rw [e2, f2]; simp only [Bool.false_eq_true, if_true, if_false]; omega
    · refine congrArg zD ?_
      rw [e2, f2]; simp only [Bool.false_eq_true, if_true, if_false]; omega
  · refine ret_of_awp tab Tryz.func72 rfl rfl (Nat.le_of_ble_eq_true rfl) (fun w0 F0 => ?_)
    repeat' (first | refine wG ?_ | refine wC ta ?_ | refine wC tb ?_ | refine cl 129 tt rfl rfl rfl (hr := ref01_SubN _ _ (by omega) (by omega)) (k := ?_) | refine clR 129 tt rfl rfl rfl (hr := ref01_SubN _ _ (by omega) (by omega)) (k := ?_) | refine cl 127 tt rfl rfl rfl (hr := ref02_signed _ _ (by omega)) (k := ?_) | refine clR 127 tt rfl rfl rfl (hr := ref02_signed _ _ (by omega)) (k := ?_) | refine rg 1 3 ?_ | refine rg 3 7 ?_ | refine wS ?_ ?_ <;> intro _ | refine finG ?_)
    · refine congrArg zD ?_
      rw [e2, f2]; simp only [Bool.false_eq_true, if_true, if_false]; omega
    · refine congrArg zD ?_
      rw [e2, f2]; simp only [Bool.false_eq_true, if_true, if_false]; omega
  · refine ret_of_awp tab Tryz.func72 rfl rfl (Nat.le_of_ble_eq_true rfl) (fun w0 F0 => ?_)
    repeat' (first | refine wG ?_ | refine wC ta ?_ | refine wC tb ?_ | refine cl 129 tt rfl rfl rfl (hr := ref01_SubN _ _ (by omega) (by omega)) (k := ?_) | refine clR 129 tt rfl rfl rfl (hr := ref01_SubN _ _ (by omega) (by omega)) (k := ?_) | refine cl 127 tt rfl rfl rfl (hr := ref02_signed _ _ (by omega)) (k := ?_) | refine clR 127 tt rfl rfl rfl (hr := ref02_signed _ _ (by omega)) (k := ?_) | refine cl 128 tt rfl rfl rfl (hr := ref01_AddN _ _ (by omega) (by omega)) (k := ?_) | refine clR 128 tt rfl rfl rfl (hr := ref01_AddN _ _ (by omega) (by omega)) (k := ?_) | refine cl 127 tt rfl rfl rfl (hr := ref02_signed true _ (by omega)) (k := ?_) | refine clR 127 tt rfl rfl rfl (hr := ref02_signed true _ (by omega)) (k := ?_) | refine rg 1 3 ?_ | refine rg 3 7 ?_ | refine wS ?_ ?_ <;> intro _ | refine finG ?_)
    show _ = zD _
    rw [e2, f2, show ((if true = true then -(a : Int) else a) + (if true = true then -(b : Int) else b) : Int) = (if true = true then -((a + b : Nat) : Int) else ((a + b : Nat) : Int)) by simp; try omega]; rfl

theorem ref02_Mul (n1 n2 : Bool) (m1 m2 : List Nat) (h1 : IntOk n1 m1 10000000000) (h2 : IntOk n2 m2 10000000000) : Ret Tryz.prog 73 [intC n1 m1, intC n2 m2] (· = zD (iv' n1 m1 * iv' n2 m2)) := by
  have ta := ref02_Take n1 m1 h1.wf (Nat.lt_trans h1.len (by decide))
  have tb := ref02_Take n2 m2 h2.wf (Nat.lt_trans h2.len (by decide))
  have la := h1.val
  have lb := h2.val
  generalize iv' n1 m1 = x at *
  generalize iv' n2 m2 = y at *
  obtain ⟨s, a, e1, e2, e3, e4⟩ := zD_cases x
  obtain ⟨t, b, f1, f2, f3, f4⟩ := zD_cases y
  rw [e1] at ta
  rw [f1] at tb
  rw [e3] at la
  rw [f3] at lb
  have lm := ln_mul a b
  simp only [ln] at lm
  have hm := ref01_MulN a b la lb
  have hs := fun s => ref02_signed s (a * b) (by omega)
  rw [e2, f2]
  cases s <;> cases t
  · refine ret_of_awp tab Tryz.func73 rfl rfl (Nat.le_of_ble_eq_true rfl) (fun w0 F0 => ?_)
    repeat' (first | refine wG ?_ | refine wC ta ?_ | refine wC tb ?_ | refine wC hm ?_ | refine wC (hs false) ?_ | refine rg 1 3 ?_ | refine rg 2 10 ?_ | refine wS ?_ ?_ <;> intro _ | refine finG ?_)
    refine congrArg zD ?_
    simp [Int.neg_mul, Int.mul_neg]
  · refine ret_of_awp tab Tryz.func73 rfl rfl (Nat.le_of_ble_eq_true rfl) (fun w0 F0 => ?_)
    repeat' (first | refine wG ?_ | refine wC ta ?_ | refine wC tb ?_ | refine wC hm ?_ | refine wC (hs true) ?_ | refine rg 1 3 ?_ | refine rg 2 10 ?_ | refine wS ?_ ?_ <;> intro _ | refine finG ?_)
    refine congrArg zD ?_
    simp [Int.neg_mul, Int.mul_neg]
  · refine ret_of_awp tab Tryz.func73 rfl rfl (Nat.le_of_ble_eq_true rfl) (fun w0 F0 => ?_)
    repeat' (first | refine wG ?_ | refine wC ta ?_ | refine wC tb ?_ | refine wC hm ?_ | refine wC (hs true) ?_ | refine rg 1 3 ?_ | refine rg 2 10 ?_ | refine wS ?_ ?_ <;> intro _ | refine finG ?_)
    refine congrArg zD ?_
    simp [Int.neg_mul, Int.mul_neg]
  · refine ret_of_awp tab Tryz.func73 rfl rfl (Nat.le_of_ble_eq_true rfl) (fun w0 F0 => ?_)
    repeat' (first | refine wG ?_ | refine wC ta ?_ | refine wC tb ?_ | refine wC hm ?_ | refine wC (hs false) ?_ | refine rg 1 3 ?_ | refine rg 2 10 ?_ | refine wS ?_ ?_ <;> intro _ | refine finG ?_)
    refine congrArg zD ?_
    simp [Int.neg_mul, Int.mul_neg]

theorem ref02_Gcd (n1 n2 : Bool) (m1 m2 : List Nat) (h1 : IntOk n1 m1 100000000) (h2 : IntOk n2 m2 100000000) : Ret Tryz.prog 124 [intC n1 m1, intC n2 m2] (· = u32s (limbs (Int.gcd (iv' n1 m1) (iv' n2 m2)))) := by
  have ta := ref02_Take n1 m1 h1.wf (Nat.lt_trans h1.len (by decide))
  have tb := ref02_Take n2 m2 h2.wf (Nat.lt_trans h2.len (by decide))
  have la := h1.val
  have lb := h2.val
  generalize iv' n1 m1 = x at *
  generalize iv' n2 m2 = y at *
  obtain ⟨s, a, e1, e2, e3, e4⟩ := zD_cases x
  obtain ⟨t, b, f1, f2, f3, f4⟩ := zD_cases y
  rw [e1] at ta
  rw [f1] at tb
  unfold Int.gcd
  rw [e3] at la ⊢
  rw [f3] at lb ⊢
  refine ret_of_awp tab Tryz.func124 rfl rfl (Nat.le_of_ble_eq_true rfl) (fun w0 F0 => ?_)
  repeat' (first | refine wG ?_ | refine wC ta ?_ | refine wC tb ?_ | refine cl 160 tt rfl rfl rfl (hr := ref01_GcdN _ _ (by omega) (by omega)) (k := ?_) | refine clR 160 tt rfl rfl rfl (hr := ref01_GcdN _ _ (by omega) (by omega)) (k := ?_) | refine rg 1 6 ?_ | refine wS ?_ ?_ <;> intro _ | refine finG ?_)
  rfl

theorem ref02_Same (n1 n2 : Bool) (m1 m2 : List Nat) (h1 : m1.length < 1000000000000) (h2 : m2.length < 1000000000000) : Ret Tryz.prog 75 [intC n1 m1, intC n2 m2] (· = .bool (decide (n1 = n2 ∧ m1 = m2))) := by
  have hs := ref01_Same m1 m2 (by omega) (by omega)
  cases n1 <;> cases n2
  · refine ret_of_awp tab Tryz.func75 rfl rfl (Nat.le_of_ble_eq_true rfl) (fun w0 F0 => ?_)
    repeat' (first | refine wG ?_ | refine wC hs ?_ | refine wS ?_ ?_ <;> intro _ | refine finG ?_)
    simp
  · refine ret_of_awp tab Tryz.func75 rfl rfl (Nat.le_of_ble_eq_true rfl) (fun w0 F0 => ?_)
    repeat' (first | refine wG ?_ | refine wC hs ?_ | refine wS ?_ ?_ <;> intro _ | refine finG ?_)
    simp
  · refine ret_of_awp tab Tryz.func75 rfl rfl (Nat.le_of_ble_eq_true rfl) (fun w0 F0 => ?_)
    repeat' (first | refine wG ?_ | refine wC hs ?_ | refine wS ?_ ?_ <;> intro _ | refine finG ?_)
    simp
  · refine ret_of_awp tab Tryz.func75 rfl rfl (Nat.le_of_ble_eq_true rfl) (fun w0 F0 => ?_)
    repeat' (first | refine wG ?_ | refine wC hs ?_ | refine wS ?_ ?_ <;> intro _ | refine finG ?_)
    simp

theorem ref01_FromUintI (i : Int) (v : Nat) (e : i = v) (h : v < 18446744073709551616) : Ret Tryz.prog 130 [.int .u64 i] (· = u32s (limbs v)) := by
  subst e; exact ref01_FromUint v h
theorem u64_len {v : Nat} (h : v < 18446744073709551616) : (limbs v).length ≤ 2 := length_limbs_le (by simpa [B_val] using h)
theorem ref02_FromInt (v : Int) (h1 : -9223372036854775808 ≤ v) (h2 : v < 9223372036854775808) : Ret Tryz.prog 77 [.int .i64 v] (· = zD v) := by
  by_cases h : v < 0
  · obtain ⟨n, hn⟩ : ∃ n : Nat, v = -((n + 1 : Nat) : Int) := ⟨(-(v + 1)).toNat, by omega⟩
    have l1 := u64_len (v := n) (by omega)
    have l2 := u64_len (v := n + 1) (by omega)
    have ha := ref01_AddN n 1 (by omega) (by have := ln_one; simp only [ln] at this; omega)
    rw [show limbs 1 = [1] from limbs_small (by decide) (by decide)] at ha
    refine ret_of_awp tab Tryz.func77 rfl rfl (Nat.le_of_ble_eq_true rfl) (fun w0 F0 => ?_)
    repeat' (first | refine wG ?_ | refine cl 130 tt rfl rfl rfl (hr := ref01_FromUintI _ n (by omega) (by omega)) (k := ?_) | refine wC ha ?_ | refine cl 127 tt rfl rfl rfl (hr := ref02_signed true _ (by omega)) (k := ?_) | refine wS ?_ ?_ <;> intro _ | refine finG ?_)
    refine congrArg zD ?_
    simp only [if_true]; omega
  · obtain ⟨n, hn⟩ : ∃ n : Nat, v = n := ⟨v.toNat, by omega⟩
    have l1 := u64_len (v := n) (by omega)
    refine ret_of_awp tab Tryz.func77 rfl rfl (Nat.le_of_ble_eq_true rfl) (fun w0 F0 => ?_)
    repeat' (first | refine wG ?_ | refine cl 130 tt rfl rfl rfl (hr := ref01_FromUintI _ n (by omega) (by omega)) (k := ?_) | refine cl 127 tt rfl rfl rfl (hr := ref02_signed false _ (by omega)) (k := ?_) | refine wS ?_ ?_ <;> intro _ | refine finG ?_)
    refine congrArg zD ?_
    simp only [Bool.false_eq_true, if_false]; omega

theorem euc {x y q r : Int} (h : y * q + r = x) (h0 : 0 ≤ r) (h1 : r < y.natAbs) : x / y = q ∧ x % y = r := by
  have hy : y ≠ 0 := by omega
  subst h
  have e1 : r % y = r := by
    rcases Int.lt_or_gt_of_ne hy with h | h
    · rw [← Int.emod_neg]; exact Int.emod_eq_of_lt h0 (by omega)
    · exact Int.emod_eq_of_lt h0 (by omega)
  have e2 : r / y = 0 := by
    have := Int.mul_ediv_add_emod r y
    rw [e1] at this
    have : y * (r / y) = 0 := by omega
    rcases Int.mul_eq_zero.1 this with h | h
    · exact absurd h hy
    · exact h
  rw [Int.add_comm, Int.add_mul_ediv_left _ _ hy, e2, Int.add_mul_emod_self_left, e1]
  exact ⟨by omega, rfl⟩

theorem divz {x y q r : Int} (h : y * q + r = x) (h0 : 0 ≤ r) (h1 : r < y.natAbs) : D.tup [zD q, zD r, D.bool true] = D.tup [zD (x / y), zD (x % y), D.bool true] := by
  obtain ⟨e1, e2⟩ := euc h h0 h1
  rw [e1, e2]
theorem ref02_Div (n1 n2 : Bool) (m1 m2 : List Nat) (h1 : IntOk n1 m1 100000000) (h2 : IntOk n2 m2 100000000) (h0 : iv' n2 m2 ≠ 0) : Ret Tryz.prog 125 [intC n1 m1, intC n2 m2] (· = .tup [zD (iv' n1 m1 / iv' n2 m2), zD (iv' n1 m1 % iv' n2 m2), .bool true]) := by
  have ta := ref02_Take n1 m1 h1.wf (Nat.lt_trans h1.len (by decide))
  have tb := ref02_Take n2 m2 h2.wf (Nat.lt_trans h2.len (by decide))
  have la := h1.val
  have lb := h2.val
  generalize iv' n1 m1 = x at *
  generalize iv' n2 m2 = y at *
  obtain ⟨s, a, e1, e2, e3, e4⟩ := zD_cases x
  obtain ⟨t, b, f1, f2, f3, f4⟩ := zD_cases y
  rw [e1] at ta
  rw [f1] at tb
  rw [e3] at la
  rw [f3] at lb
  have hb : b ≠ 0 := by omega
  have hd := ref01_DivN a b (by omega) (by omega) hb
  have l1 := len_bound (Nat.div_le_self a b) la
  have hr := Nat.mod_lt a (Nat.pos_of_ne_zero hb)
  have hx := Nat.div_add_mod a b
  have l2 := len_bound (Nat.le_of_lt hr) lb
  have l3 := len_bound (Nat.sub_le b (a % b)) lb
  have l4 := ln_add (a / b) 1
  have l5 := ln_one
  simp only [ln] at l4 l5
  have ha := ref01_AddN (a / b) 1 (by omega) (by omega)
  rw [show limbs 1 = [1] from limbs_small (by decide) (by decide)] at ha
  have hs := ref01_SubN b (a % b) (by omega) (by omega)
  have hz : (limbs (a % b)).length = 0 ↔ a % b = 0 := ⟨fun h => limbs_eq_nil.1 (List.length_eq_zero_iff.1 h), fun h => by rw [h, limbs_zero]; rfl⟩
  generalize a / b = q at *
  generalize a % b = r at *
  have hx' : (b : Int) * q + r = a := by rw [← hx]; simp
  cases s <;> cases t
  · simp only [Bool.false_eq_true, if_true, if_false] at e2 f2
    refine ret_of_awp tab Tryz.func125 rfl rfl (Nat.le_of_ble_eq_true rfl) (fun w0 F0 => ?_)
    repeat' (first | refine wG ?_ | refine wC ta ?_ | refine wC tb ?_ | refine wC hd ?_ | refine wC ha ?_ | refine wC hs ?_ | refine cl 127 tt rfl rfl rfl (hr := ref02_signed _ _ (by omega)) (k := ?_) | refine clR 127 tt rfl rfl rfl (hr := ref02_signed _ _ (by omega)) (k := ?_) | refine rg 1 3 ?_ | refine wS ?_ ?_ <;> intro _ | refine finG ?_)
    · refine divz (q := (q:Int)) (r := (r:Int)) ?_ ?_ ?_
      · rw [e2, f2]; (try simp only [Int.neg_mul, Int.mul_neg, Int.neg_neg, Int.mul_add, Int.mul_one, Int.natCast_add, Int.natCast_one]); omega
      · omega
      · omega
  · simp only [Bool.false_eq_true, if_true, if_false] at e2 f2
    refine ret_of_awp tab Tryz.func125 rfl rfl (Nat.le_of_ble_eq_true rfl) (fun w0 F0 => ?_)
    repeat' (first | refine wG ?_ | refine wC ta ?_ | refine wC tb ?_ | refine wC hd ?_ | refine wC ha ?_ | refine wC hs ?_ | refine cl 127 tt rfl rfl rfl (hr := ref02_signed _ _ (by omega)) (k := ?_) | refine clR 127 tt rfl rfl rfl (hr := ref02_signed _ _ (by omega)) (k := ?_) | refine rg 1 3 ?_ | refine wS ?_ ?_ <;> intro _ | refine finG ?_)
    · refine divz (q := -(q:Int)) (r := (r:Int)) ?_ ?_ ?_
      · rw [e2, f2]; (try simp only [Int.neg_mul, Int.mul_neg, Int.neg_neg, Int.mul_add, Int.mul_one, Int.natCast_add, Int.natCast_one]); omega
      · omega
      · omega
  · simp only [Bool.false_eq_true, if_true, if_false] at e2 f2
    refine ret_of_awp tab Tryz.func125 rfl rfl (Nat.le_of_ble_eq_true rfl) (fun w0 F0 => ?_)
    repeat' (first | refine wG ?_ | refine wC ta ?_ | refine wC tb ?_ | refine wC hd ?_ | refine wC ha ?_ | refine wC hs ?_ | refine cl 127 tt rfl rfl rfl (hr := ref02_signed _ _ (by omega)) (k := ?_) | refine clR 127 tt rfl rfl rfl (hr := ref02_signed _ _ (by omega)) (k := ?_) | refine rg 1 3 ?_ | refine wS ?_ ?_ <;> intro _ | refine finG ?_)
    · rename_i hc
      refine divz (q := -((q+1:Nat):Int)) (r := ((b-r:Nat):Int)) ?_ ?_ ?_
      · rw [e2, f2]; (try simp only [Int.neg_mul, Int.mul_neg, Int.neg_neg, Int.mul_add, Int.mul_one, Int.natCast_add, Int.natCast_one]); omega
      · omega
      · omega
    · rename_i hc
      have hc0 : r = 0 := hz.1 (by omega)
      refine divz (q := -(q:Int)) (r := (r:Int)) ?_ ?_ ?_
      · rw [e2, f2]; (try simp only [Int.neg_mul, Int.mul_neg, Int.neg_neg, Int.mul_add, Int.mul_one, Int.natCast_add, Int.natCast_one]); omega
      · omega
      · omega
  · simp only [Bool.false_eq_true, if_true, if_false] at e2 f2
    refine ret_of_awp tab Tryz.func125 rfl rfl (Nat.le_of_ble_eq_true rfl) (fun w0 F0 => ?_)
    repeat' (first | refine wG ?_ | refine wC ta ?_ | refine wC tb ?_ | refine wC hd ?_ | refine wC ha ?_ | refine wC hs ?_ | refine cl 127 tt rfl rfl rfl (hr := ref02_signed _ _ (by omega)) (k := ?_) | refine clR 127 tt rfl rfl rfl (hr := ref02_signed _ _ (by omega)) (k := ?_) | refine rg 1 3 ?_ | refine wS ?_ ?_ <;> intro _ | refine finG ?_)
    · rename_i hc
      refine divz (q := ((q+1:Nat):Int)) (r := ((b-r:Nat):Int)) ?_ ?_ ?_
      · rw [e2, f2]; (try simp only [Int.neg_mul, Int.mul_neg, Int.neg_neg, Int.mul_add, Int.mul_one, Int.natCast_add, Int.natCast_one]); omega
      · omega
      · omega
    · rename_i hc
      have hc0 : r = 0 := hz.1 (by omega)
      refine divz (q := (q:Int)) (r := (r:Int)) ?_ ?_ ?_
      · rw [e2, f2]; (try simp only [Int.neg_mul, Int.mul_neg, Int.neg_neg, Int.mul_add, Int.mul_one, Int.natCast_add, Int.natCast_one]); omega
      · omega
      · omega

end Go.Proofs.YtejigedigmagdaaGreat

/-
  Rational numbers as the program holds them; rows, tables, strings. Conditions: none.
-/
namespace Go.Vw

abbrev R3 := Bool × List Nat × List Nat
@[reducible] def rC (r : R3) : List D := [.bool r.1, u32s r.2.1, u32s r.2.2]
@[reducible] def rD (r : R3) : D := .agg (rC r)
@[reducible] def r0 : R3 := (false, [], [])
@[reducible] def rsD (l : List R3) : D := .sl 3 rC r0 l
@[reducible] def eR (l : List R3) : List D := [rsD l]
@[reducible] def rssD (l : List (List R3)) : D := .sl 1 eR [] l
@[reducible] def eS (b : List UInt8) : List D := [.str b]
@[reducible] def strsD (l : List (List UInt8)) : D := .sl 1 eS [] l

def zR (z : Int) : R3 := (decide (z < 0), limbs z.natAbs, [])
end Go.Vw

set_option maxHeartbeats 8000000
namespace Go.Proofs.YtejigedigmagdaaGreat
open Go.Vw
attribute [local irreducible] awp awpL awpR

theorem ref03_FromInt (v : Int) (h1 : -9223372036854775808 ≤ v) (h2 : v < 9223372036854775808) : Ret Tryz.prog 27 [.int .i64 v] (· = rD (zR v)) := by
  refine ret_of_awp tab Tryz.func27 rfl rfl (Nat.le_of_ble_eq_true rfl) (fun w0 F0 => ?_)
  repeat' (first | refine wG ?_ | refine wC (ref02_FromInt v h1 h2) ?_ | refine wS ?_ ?_ <;> intro _ | (show retPost _ _ _ _ _; first | refine finF true rfl rfl sc ?_ | refine finF false rfl rfl sc ?_ | refine finC false rfl rfl sc sc ?_ | refine finN rfl rfl sc ?_ | refine finL true rfl rfl sc rfl (LeR.cons rfl leL LeR.nil) ?_ | refine finA true rfl rfl sc ?_ | refine finA false rfl rfl sc ?_ | refine finE true rfl rfl sc ?_ | refine finE false rfl rfl sc ?_))
  exact leL

def okR (k : Nat) (r : R3) : Prop := r.2.1.length < k ∧ r.2.2.length < k

theorem ref03_Same (r t : R3) (h1 : okR 1000000000000 r) (h2 : okR 1000000000000 t) : Ret Tryz.prog 25 [rD r, rD t] (· = .bool (decide (r = t))) := by
  obtain ⟨n1, m1, d1⟩ := r
  obtain ⟨n2, m2, d2⟩ := t
  obtain ⟨h1, h1'⟩ := h1
  obtain ⟨h2, h2'⟩ := h2
  have hs := ref02_Same n1 n2 m1 m2 h1 h2
  have ht := ref01_Same d1 d2 (Nat.lt_trans h1' (by decide)) (Nat.lt_trans h2' (by decide))
  by_cases h : n1 = n2 ∧ m1 = m2
  · rw [decide_eq_true h] at hs
    refine ret_of_awp tab Tryz.func25 rfl rfl (Nat.le_of_ble_eq_true rfl) (fun w0 F0 => ?_)
    repeat' (first | refine wG ?_ | refine wC hs ?_ | refine wC ht ?_ | refine wS ?_ ?_ <;> intro _ | refine finG ?_)
    simp [h]
  · rw [decide_eq_false h] at hs
    refine ret_of_awp tab Tryz.func25 rfl rfl (Nat.le_of_ble_eq_true rfl) (fun w0 F0 => ?_)
    repeat' (first | refine wG ?_ | refine wC hs ?_ | refine wC ht ?_ | refine wS ?_ ?_ <;> intro _ | refine finG ?_)
    all_goals simp
    all_goals intro g1 g2; exact absurd ⟨g1, g2⟩ h

end Go.Proofs.YtejigedigmagdaaGreat

set_option maxHeartbeats 8000000
namespace Go.Proofs.YtejigedigmagdaaGreat
open Go.Vw
attribute [local irreducible] awp awpL awpR

theorem natural_trimmed (l : List Nat) (hl : l.length < 10000000000000) : Ret Tryz.prog 147 [u32s l] (· = u32s (trimL l)) := by
  refine ret_of_awp tab Tryz.func147 rfl rfl (Nat.le_of_ble_eq_true rfl) (fun w0 F0 => ?_)
  repeat' (first | refine wG ?_ | refine wS ?_ ?_ <;> intro _ | refine finG ?_)
  refine awp_loop1 (fun n : Nat => ([(0, .d (u32s l)), (3, .d (.int .i64 n))], [])) (fun n => n ≤ l.length ∧ trimL (l.take n) = trimL l) (fun n => n) l.length ⟨by omega, by simp⟩ ⟨rfl, rfl, rfl⟩ trivial (fun n hi => ?_)
  obtain ⟨h1, h2⟩ := hi
  have e : 0 < n → (l.take n).getD ((l.take n).length - 1) 0 = l.getD (n - 1) 0 := fun hn => by
    simp [List.getD, List.length_take, Nat.min_eq_left h1, List.getElem?_take, show n - 1 < n by omega, List.getElem?_eq_getElem (show n - 1 < l.length by omega)]
  have hlen : (l.take n).length = n := by simp; omega
  repeat' (first | refine wG ?_ | refine wS ?_ ?_ <;> intro _ | refine finG ?_)
  · rename_i h3 h4
    refine ⟨n - 1, ⟨by omega, ?_⟩, by omega, ⟨rfl, iv (by omega), rfl⟩, trivial⟩
    rw [← h2, ← trimL_last (m := l.take n) (by omega) (by rw [e (by omega), ← show ((n : Int) - 1).toNat = n - 1 by omega]; omega), hlen, List.take_take, Nat.min_eq_left (by omega)]
  · rename_i h3 h4
    rw [← h2, trimL_done (by rw [e (by omega), ← show ((n : Int) - 1).toNat = n - 1 by omega]; omega)]
  · rename_i h3
    have : n = 0 := by omega
    subst this
    rw [← h2]; rfl
theorem natural_FromUint (i : Int) (v : Nat) (e : i = v) (h : v < 18446744073709551616) : Ret Tryz.prog 148 [.int .u64 i] (· = u32s (limbs v)) := by
  subst e
  have ht := natural_trimmed [v % 4294967296, v / 4294967296] (by simp)
  rw [two_limbs v h] at ht
  refine ret_of_awp tab Tryz.func148 rfl rfl (Nat.le_of_ble_eq_true rfl) (fun w0 F0 => ?_)
  repeat' (first | refine wG ?_ | refine wC ht ?_ | refine wS ?_ ?_ <;> intro _ | refine finG ?_)
  rfl
theorem integer_signed (neg : Bool) (n : Nat) (hl : (limbs n).length < 1000000000000) : Ret Tryz.prog 141 [.bool neg, u32s (limbs n)] (· = zD (if neg then -(n : Int) else n)) := by
  rw [← signed_z]
  cases neg with
  | false => 
    refine ret_of_awp tab Tryz.func141 rfl rfl (Nat.le_of_ble_eq_true rfl) (fun w0 F0 => ?_)
    repeat' (first | refine wG ?_ | refine wS ?_ ?_ <;> intro _ | refine finG ?_)
    rfl
  | true =>
    refine ret_of_awp tab Tryz.func141 rfl rfl (Nat.le_of_ble_eq_true rfl) (fun w0 F0 => ?_)
    repeat' (first | refine wG ?_ | refine wS ?_ ?_ <;> intro _ | refine finG ?_)
    simp; rfl
theorem integer_FromInt (v : Int) (h1 : -9223372036854775808 ≤ v) (h2 : v < 9223372036854775808) : Ret Tryz.prog 99 [.int .i64 v] (· = zD v) := by
  by_cases h : v < 0
  · have l1 := u64_len (v := v.natAbs) (by omega)
    refine ret_of_awp tab Tryz.func99 rfl rfl (Nat.le_of_ble_eq_true rfl) (fun w0 F0 => ?_)
    repeat' (first | refine wG ?_ | refine cl 148 tt rfl rfl rfl (hr := natural_FromUint _ v.natAbs (by omega) (by omega)) (k := ?_) | refine cl 141 tt rfl rfl rfl (hr := integer_signed true _ (by omega)) (k := ?_) | refine wS ?_ ?_ <;> intro _ | refine finG ?_)
    refine congrArg zD ?_
    simp only [if_true]; omega
  · have l1 := u64_len (v := v.natAbs) (by omega)
    refine ret_of_awp tab Tryz.func99 rfl rfl (Nat.le_of_ble_eq_true rfl) (fun w0 F0 => ?_)
    repeat' (first | refine wG ?_ | refine cl 148 tt rfl rfl rfl (hr := natural_FromUint _ v.natAbs (by omega) (by omega)) (k := ?_) | refine cl 141 tt rfl rfl rfl (hr := integer_signed false _ (by omega)) (k := ?_) | refine wS ?_ ?_ <;> intro _ | refine finG ?_)
    refine congrArg zD ?_
    simp only [Bool.false_eq_true, if_false]; omega
theorem rational_FromInt (v : Int) (h1 : -9223372036854775808 ≤ v) (h2 : v < 9223372036854775808) : Ret Tryz.prog 52 [.int .i64 v] (· = rD (zR v)) := by
  refine ret_of_awp tab Tryz.func52 rfl rfl (Nat.le_of_ble_eq_true rfl) (fun w0 F0 => ?_)
  repeat' (first | refine wG ?_ | refine wC (integer_FromInt v h1 h2) ?_ | refine wS ?_ ?_ <;> intro _ | (show retPost _ _ _ _ _; first | refine finF true rfl rfl sc ?_ | refine finF false rfl rfl sc ?_ | refine finC false rfl rfl sc sc ?_ | refine finN rfl rfl sc ?_ | refine finL true rfl rfl sc rfl (LeR.cons rfl leL LeR.nil) ?_ | refine finA true rfl rfl sc ?_ | refine finA false rfl rfl sc ?_ | refine finE true rfl rfl sc ?_ | refine finE false rfl rfl sc ?_))
  exact leL
end Go.Proofs.YtejigedigmagdaaGreat

set_option maxHeartbeats 8000000
namespace Go.Proofs.YtejigedigmagdaaGreat
open Go.Vw
attribute [local irreducible] awp awpL awpR

theorem natural_Valid (l : List Nat) (hl : l.length < 10000000000000) : Ret Tryz.prog 174 [u32s l] (· = .bool (valid l)) := by
  refine ret_of_awp tab Tryz.func174 rfl rfl (Nat.le_of_ble_eq_true rfl) (fun w0 F0 => ?_)
  repeat' (first | refine wG ?_ | refine wS ?_ ?_ <;> intro _ | refine finG ?_)
  · rename_i h
    have : l = [] := List.length_eq_zero_iff.1 (by omega)
    subst this; rfl
  · rename_i h
    have hn : l ≠ [] := fun e => h (by simp [e])
    have e : ((l.length : Int) - 1).toNat = l.length - 1 := by omega
    rw [e]
    have hv : valid l = (l.getD (l.length - 1) 0 != 0) := by conv => lhs; rw [list_snoc hn, valid_snoc]
    rw [hv]
    congr 1
    rw [Bool.eq_iff_iff]; simp
theorem natural_value (l : List Nat) (hl : l.length < 10000000000000) : Ret Tryz.prog 146 [u32s l] (· = u32s (takeL l)) := by
  have hv := natural_Valid l hl
  unfold takeL
  cases h : valid l with
  | true =>
    rw [h] at hv
    refine ret_of_awp tab Tryz.func146 rfl rfl (Nat.le_of_ble_eq_true rfl) (fun w0 F0 => ?_)
    repeat' (first | refine wG ?_ | refine wC hv ?_ | refine wS ?_ ?_ <;> intro _ | refine finG ?_)
    rfl
  | false =>
    rw [h] at hv
    refine ret_of_awp tab Tryz.func146 rfl rfl (Nat.le_of_ble_eq_true rfl) (fun w0 F0 => ?_)
    repeat' (first | refine wG ?_ | refine wC hv ?_ | refine wS ?_ ?_ <;> intro _ | refine finG ?_)
    rfl
theorem natural_Compare (a b : List Nat) (wa : WF a) (wb : WF b) (hla : a.length < 10000000000) (hlb : b.length < 10000000000) : Ret Tryz.prog 145 [u32s a, u32s b] (· = .int .i64 (cmpN (nv a) (nv b))) := by
  have h1 := natural_value a (by omega)
  have h2 := natural_value b (by omega)
  have la := takeL_le a
  have lb := takeL_le b
  rw [takeL_limbs wa] at h1 la
  rw [takeL_limbs wb] at h2 lb
  generalize nv a = m at *
  generalize nv b = n at *
  have va := val_limbs m
  have vb := val_limbs n
  have ga := @lt_of_length m n
  have gb := @lt_of_length n m
  have wa' := wf_limbs m
  have wb' := wf_limbs n
  refine ret_of_awp tab Tryz.func145 rfl rfl (Nat.le_of_ble_eq_true rfl) (fun w0 F0 => ?_)
  repeat' (first | refine wG ?_ | refine wC h1 ?_ | refine wC h2 ?_ | refine rg 9 8 ?_ | refine rg 11 8 ?_ | refine wS ?_ ?_ <;> intro _ | refine finG ?_)
  · have := ga (by omega)
    simp only [cmpN, this, if_true]
  · have := gb (by omega)
    simp only [cmpN, show ¬ m < n by omega, this, if_true, if_false]
  · clear h1 h2
    generalize limbs m = a' at *
    generalize limbs n = b' at *
    rename_i h
    refine awp_loop1 (fun i : Nat => ([(0, .d (u32s a')), (1, .d (u32s b')), (5, .d (.int .i64 ((i : Int) - 1)))], [])) (fun i => i ≤ a'.length ∧ a'.drop i = b'.drop i) (fun i => i) a'.length ⟨Nat.le_refl _, by simp; omega⟩ ⟨rfl, rfl, rfl, rfl⟩ trivial (fun i hi => ?_)
    obtain ⟨h1, h2⟩ := hi
    repeat' (first | refine wG ?_ | refine rg 9 8 ?_ | refine rg 11 8 ?_ | refine wS ?_ ?_ <;> intro _ | refine finG ?_)
    all_goals first | have e : ((i : Int) - 1).toNat = i - 1 := by omega
    · rename_i h3 h7
      have h6 : i - 1 + 1 = i := by omega
      rw [← h6] at h2
      have := val_lt_of wa' (by omega) (by omega) h2 (by rw [e] at h7; omega)
      simp [cmpN, show m < n by omega]
    · rename_i h3 h8 h7
      have h6 : i - 1 + 1 = i := by omega
      rw [← h6] at h2
      have := val_lt_of wb' (by omega) (by omega) h2.symm (by rw [e] at h7; omega)
      simp [cmpN, show n < m by omega, show ¬ m < n by omega]
    · rename_i h3 h7 h8
      have h6 : i - 1 + 1 = i := by omega
      rw [← h6] at h2
      rw [e] at h7 h8
      have h9 : a'.getD (i - 1) 0 = b'.getD (i - 1) 0 := by omega
      exact ⟨i - 1, ⟨by omega, drop_eq_of (by omega) (by omega) h2 h9⟩, by omega, ⟨rfl, rfl, iv (by omega), rfl⟩, trivial⟩
    · have : i = 0 := by omega
      subst this
      have : a' = b' := by simpa using h2
      simp [cmpN, show ¬ n < m by rw [← va, ← vb, this]; omega, show ¬ m < n by rw [← va, ← vb, this]; omega]

theorem natural_Add (a b : List Nat) (wa : WF a) (wb : WF b) (hla : a.length < 1000000000000) (hlb : b.length < 1000000000000) : Ret Tryz.prog 140 [u32s a, u32s b] (· = u32s (limbs (nv a + nv b))) := by
  have h1 := natural_value a (by omega)
  have h2 := natural_value b (by omega)
  have la := takeL_le a
  have lb := takeL_le b
  have wa' := wf_takeL wa
  have wb' := wf_takeL wb
  have va : val (takeL a) = nv a := rfl
  have vb : val (takeL b) = nv b := rfl
  refine ret_of_awp tab Tryz.func140 rfl rfl (Nat.le_of_ble_eq_true rfl) (fun w0 F0 => ?_)
  repeat' (first | refine stopA 2 tt ?_ | refine wG ?_ | refine wC h1 ?_ | refine wC h2 ?_ | refine wS ?_ ?_ <;> intro _ | refine finG ?_)
  refine stopOut ?_
  clear h1 h2
  generalize takeL a = a0 at *
  generalize takeL b = b0 at *
  refine awp_meet2 (fun (p q : List Nat) => ([(0, .d (u32s p)), (1, .d (u32s q))], [])) (fun p q => WF p ∧ WF q ∧ q.length ≤ p.length ∧ p.length < 1000000000000 ∧ val p + val q = nv a + nv b) (fun p q h => ?_) ?_
  · obtain ⟨wp, wq, hqp, hpl, hval⟩ := h
    repeat' (first | refine wG ?_ | refine wS ?_ ?_ <;> intro _ | refine finG ?_)
    refine awp_loop2 (fun (i : Nat) (o : List Nat × Nat) => ([(0, .d (u32s p)), (1, .d (u32s q)), (5, .own 24 0 (p.length + 1) 111 1), (6, .d (.int .u32 o.2)), (25, .d (u32s p)), (26, .d (.int .i64 p.length)), (27, .d (.int .i64 i))], [(24, .data 111 1 (eN .u32) 0 o.1)])) (fun i o => i ≤ p.length ∧ o.1.length = p.length + 1 ∧ WF o.1 ∧ o.2 ≤ 1 ∧ val (o.1.take i) + o.2 * B ^ i = val (p.take i) + val (q.take i)) (fun i o => p.length - i) 0 (List.replicate (p.length + 1) 0, 0) ⟨by omega, by simp, wf_replicate _, by omega, by simp [val]⟩ ⟨rfl, rfl, rfl, rfl, rfl, rfl, rfl, rfl⟩ ⟨rfl, trivial⟩ (fun i o h => ?_)
    obtain ⟨o, c⟩ := o
    obtain ⟨i1, i2, i3, i4, i5⟩ := h
    simp only at i2 i3 i4 i5
    have gp := wp.getD i
    have gq := wq.getD i
    rw [B_val] at gp gq
    by_cases hin : i < p.length
    · have hstep := addL_step wp wq i3 (by omega) i4 i5
      by_cases hq : i < q.length
      · repeat' (first | refine wG ?_ | refine cl 176 tt rfl rfl rfl (hr := bits_Add32 _ _ _ gp gq i4) (k := ?_) | refine wS ?_ ?_ <;> intro _ | refine finG ?_)
        exact ⟨i + 1, (_, _), ⟨by omega, by simp; omega, hstep.1, hstep.2.1, hstep.2.2⟩, by omega, ⟨rfl, rfl, rfl, rfl, rfl, rfl, iv (by omega), rfl⟩, rfl, trivial⟩
      · have hq0 := getD_take_le q i (by omega)
        rw [hq0] at hstep
        repeat' (first | refine wG ?_ | refine cl 176 tt rfl rfl rfl (hr := bits_Add32 _ 0 _ gp (by omega) i4) (k := ?_) | refine wS ?_ ?_ <;> intro _ | refine finG ?_)
        exact ⟨i + 1, (_, _), ⟨by omega, by simp; omega, hstep.1, hstep.2.1, hstep.2.2⟩, by omega, ⟨rfl, rfl, rfl, rfl, rfl, rfl, iv (by omega), rfl⟩, rfl, trivial⟩
    · have : i = p.length := by omega
      subst this
      have hset := val_take_set o p.length c (by omega)
      have hwf : WF (o.set p.length c) := i3.set _ (by rw [B_val]; omega)
      have ht := natural_trimmed (o.set p.length c) (by simp; omega)
      rw [trimL_limbs hwf] at ht
      rw [val_take_all _ (by simp; omega), Nat.mul_comm, i5, val_take_all p (Nat.le_refl _), val_take_all q (by omega), hval] at hset
      rw [hset] at ht
      repeat' (first | refine wG ?_ | refine wC ht ?_ | refine wS ?_ ?_ <;> intro _ | refine finG ?_)
      rfl
  · repeat' (first | refine wG ?_ | refine wS ?_ ?_ <;> intro _ | refine finG ?_)
    · exact ⟨b0, a0, ⟨wb', wa', by omega, by omega, by omega⟩, ⟨rfl, rfl, rfl⟩, trivial⟩
    · exact ⟨a0, b0, ⟨wa', wb', by omega, by omega, by omega⟩, ⟨rfl, rfl, rfl⟩, trivial⟩
theorem natural_Sub (a b : List Nat) (wa : WF a) (wb : WF b) (hla : a.length < 10000000000) (hlb : b.length < 10000000000) : Ret Tryz.prog 142 [u32s a, u32s b] (· = if nv a < nv b then .tup [u32s [], .bool false] else .tup [u32s (limbs (nv a - nv b)), .bool true]) := by
  have h1 := natural_value a (by omega)
  have h2 := natural_value b (by omega)
  have la := takeL_le a
  have lb := takeL_le b
  have wa' := wf_takeL wa
  have wb' := wf_takeL wb
  have va : val (takeL a) = nv a := rfl
  have vb : val (takeL b) = nv b := rfl
  have hc := natural_Compare (takeL a) (takeL b) wa' wb' (by omega) (by omega)
  have e1 : nv (takeL a) = nv a := by rw [takeL_limbs wa, nv_limbs]
  have e2 : nv (takeL b) = nv b := by rw [takeL_limbs wb, nv_limbs]
  have hlen : nv b ≤ nv a → (takeL b).length ≤ (takeL a).length := fun h => by rw [takeL_limbs wa, takeL_limbs wb]; exact limbs_len_mono h
  rw [e1, e2] at hc
  generalize takeL a = p at *
  generalize takeL b = q at *
  have hcn := cmpN_neg (nv a) (nv b)
  by_cases hlt : nv a < nv b
  · rw [if_pos hlt]
    refine ret_of_awp tab Tryz.func142 rfl rfl (Nat.le_of_ble_eq_true rfl) (fun w0 F0 => ?_)
    repeat' (first | refine wG ?_ | refine wC h1 ?_ | refine wC h2 ?_ | refine wC hc ?_ | refine wS ?_ ?_ <;> intro _ | refine finTG ?_)
    exact leT
  · rw [if_neg hlt]
    have hqp := hlen (by omega)
    refine ret_of_awp tab Tryz.func142 rfl rfl (Nat.le_of_ble_eq_true rfl) (fun w0 F0 => ?_)
    repeat' (first | refine wG ?_ | refine wC h1 ?_ | refine wC h2 ?_ | refine wC hc ?_ | refine wS ?_ ?_ <;> intro _ | refine finTG ?_)
    refine awp_loop2 (fun (i : Nat) (o : List Nat × Nat) => ([(0, .d (u32s p)), (1, .d (u32s q)), (6, .own 21 0 p.length 111 1), (7, .d (.int .u32 o.2)), (22, .d (u32s p)), (23, .d (.int .i64 p.length)), (24, .d (.int .i64 i))], [(21, .data 111 1 (eN .u32) 0 o.1)])) (fun i o => i ≤ p.length ∧ o.1.length = p.length ∧ WF o.1 ∧ o.2 ≤ 1 ∧ val (o.1.take i) + val (q.take i) = val (p.take i) + o.2 * B ^ i) (fun i o => p.length - i) 0 (List.replicate p.length 0, 0) ⟨by omega, by simp, wf_replicate _, by omega, by simp [val]⟩ ⟨rfl, rfl, rfl, rfl, rfl, rfl, rfl, rfl⟩ ⟨rfl, trivial⟩ (fun i o h => ?_)
    obtain ⟨o, c⟩ := o
    obtain ⟨i1, i2, i3, i4, i5⟩ := h
    simp only at i2 i3 i4 i5
    have gp := wa'.getD i
    have gq := wb'.getD i
    rw [B_val] at gp gq
    by_cases hin : i < p.length
    · obtain ⟨d, hd⟩ : ∃ d : Nat, ((p.getD i 0 : Nat) : Int) - (q.getD i 0 : Nat) - c + (if p.getD i 0 < q.getD i 0 + c then 4294967296 else 0) = d := ⟨(((p.getD i 0 : Nat) : Int) - (q.getD i 0 : Nat) - c + (if p.getD i 0 < q.getD i 0 + c then 4294967296 else 0)).toNat, by split <;> omega⟩
      have hstep := subL_step wa' wb' i3 (by omega) i4 i5 hd.symm
      have hsub := bits_Sub32 _ _ _ gp gq i4
      rw [hd] at hsub
      obtain ⟨c', hc', hc1⟩ : ∃ c' : Nat, (if p.getD i 0 < q.getD i 0 + c then 1 else 0) = c' ∧ c' ≤ 1 := ⟨_, rfl, by split <;> omega⟩
      rw [hc'] at hstep
      rw [show ((if p.getD i 0 < q.getD i 0 + c then 1 else 0 : Int)) = (c' : Int) by rw [← hc']; split <;> rfl] at hsub
      by_cases hq : i < q.length
      · repeat' (first | refine wG ?_ | refine wC hsub ?_ | refine wS ?_ ?_ <;> intro _ | refine finG ?_)
        exact ⟨i + 1, (_, _), ⟨by omega, by simp; omega, hstep.1, hc1, hstep.2⟩, by omega, ⟨rfl, rfl, rfl, rfl, rfl, rfl, iv (by omega), rfl⟩, rfl, trivial⟩
      · have hq0 := getD_take_le q i (by omega)
        rw [hq0] at hsub
        repeat' (first | refine wG ?_ | refine wC hsub ?_ | refine wS ?_ ?_ <;> intro _ | refine finG ?_)
        exact ⟨i + 1, (_, _), ⟨by omega, by simp; omega, hstep.1, hc1, hstep.2⟩, by omega, ⟨rfl, rfl, rfl, rfl, rfl, rfl, iv (by omega), rfl⟩, rfl, trivial⟩
    · have : i = p.length := by omega
      subst this
      have ht := natural_trimmed o (by omega)
      rw [trimL_limbs i3] at ht
      rw [val_take_all o (by omega), val_take_all p (Nat.le_refl _), val_take_all q (by omega)] at i5
      have hlo := val_lt i3
      rw [i2] at hlo
      have hc0 : c = 0 := by
        refine Nat.le_zero.1 (Nat.le_of_not_lt fun hc => ?_)
        have := Nat.mul_le_mul_right (B ^ p.length) (show 1 ≤ c from hc)
        have := val_lt wb'
        have : val q < B ^ p.length := Nat.lt_of_lt_of_le this (Nat.pow_le_pow_right (by decide) hqp)
        omega
      subst hc0
      rw [show val o = nv a - nv b by omega] at ht
      repeat' (first | refine wG ?_ | refine wC ht ?_ | refine wS ?_ ?_ <;> intro _ | refine finTG ?_)
      exact leT
theorem natural_Mul (a b : List Nat) (wa : WF a) (wb : WF b) (hla : a.length < 10000000000) (hlb : b.length < 10000000000) : Ret Tryz.prog 95 [u32s a, u32s b] (· = u32s (limbs (nv a * nv b))) := by
  have h1 := natural_value a (by omega)
  have h2 := natural_value b (by omega)
  have la := takeL_le a
  have lb := takeL_le b
  have wa' := wf_takeL wa
  have wb' := wf_takeL wb
  have va : val (takeL a) = nv a := rfl
  have vb : val (takeL b) = nv b := rfl
  generalize takeL a = p at *
  generalize takeL b = q at *
  refine ret_of_awp tab Tryz.func95 rfl rfl (Nat.le_of_ble_eq_true rfl) (fun w0 F0 => ?_)
  repeat' (first | refine wG ?_ | refine wC h1 ?_ | refine wC h2 ?_ | refine wS ?_ ?_ <;> intro _ | refine finG ?_)
  refine awp_loop2 (fun (i : Nat) (o : List Nat) => ([(0, .d (u32s p)), (1, .d (u32s q)), (5, .own 20 0 (p.length + q.length) 111 1), (21, .d (u32s p)), (22, .d (.int .i64 p.length)), (23, .d (.int .i64 i))], [(20, .data 111 1 (eN .u32) 0 o)])) (fun i o => i ≤ p.length ∧ o.length = p.length + q.length ∧ WF o ∧ val (o.take (i + q.length)) = val (p.take i) * val q) (fun i o => p.length - i) 0 (List.replicate (p.length + q.length) 0) ⟨by omega, by simp, wf_replicate _, ?_⟩ ⟨rfl, rfl, rfl, rfl, rfl, rfl, rfl⟩ ⟨rfl, trivial⟩ (fun i o h => ?_)
  · rw [List.take_replicate, List.take_zero]
    have : ∀ n, val (List.replicate n 0) = 0 := fun n => by induction n with
      | zero => rfl
      | succ n ih => rw [List.replicate_succ, val, ih]; rfl
    rw [this]; simp [val]
  obtain ⟨i1, i2, i3, i4⟩ := h
  by_cases hin : i < p.length
  · have gp := wa'.getD i
    rw [B_val] at gp
    have hps := val_take_succ p i
    repeat' (first | refine wG ?_ | refine wS ?_ ?_ <;> intro _ | refine finG ?_)
    refine awp_loop2 (fun (j : Nat) (o : List Nat × Nat) => ([(0, .d (u32s p)), (1, .d (u32s q)), (5, .own 20 0 (p.length + q.length) 111 1), (21, .d (u32s p)), (22, .d (.int .i64 p.length)), (23, .d (.int .i64 i)), (6, .d (.int .i64 i)), (7, .d (.int .u32 (p.getD i 0 : Nat))), (8, .d (.int .u64 o.2)), (28, .d (u32s q)), (29, .d (.int .i64 q.length)), (30, .d (.int .i64 j))], [(20, .data 111 1 (eN .u32) 0 o.1)])) (fun j o => j ≤ q.length ∧ o.1.length = p.length + q.length ∧ WF o.1 ∧ o.2 < 4294967296 ∧ val (o.1.take (i + q.length)) + o.2 * B ^ (i + j) = val (p.take i) * val q + B ^ i * (p.getD i 0 * val (q.take j))) (fun j o => q.length - j) 0 (o, 0) ⟨by omega, i2, i3, by omega, by simp [val, i4]⟩ ⟨rfl, rfl, rfl, rfl, rfl, rfl, rfl, rfl, rfl, rfl, rfl, rfl, rfl⟩ ⟨rfl, trivial⟩ (fun j o h => ?_)
    obtain ⟨o, c⟩ := o
    obtain ⟨j1, j2, j3, j4, j5⟩ := h
    simp only at j2 j3 j4 j5
    by_cases hjn : j < q.length
    · have gq := wb'.getD j
      rw [B_val] at gq
      have hstep := mulL_step j3 (show i + j < i + q.length by omega) (by omega) gp gq j4 j5
      have hxy : ((p.getD i 0 : Nat) : Int) * ((q.getD j 0 : Nat) : Int) = ((p.getD i 0 * q.getD j 0 : Nat) : Int) := by rw [Int.natCast_mul]
      have hxy2 : p.getD i 0 * q.getD j 0 ≤ 4294967295 * 4294967295 := Nat.mul_le_mul (by omega) (by omega)
      have go := j3.getD (i + j)
      rw [B_val] at go
      repeat' (first | refine wG ?_ | refine wS ?_ ?_ <;> intro _ | refine finG ?_)
      refine ⟨j + 1, (o.set (i + j) ((p.getD i 0 * q.getD j 0 + o.getD (i + j) 0 + c) % 4294967296), (p.getD i 0 * q.getD j 0 + o.getD (i + j) 0 + c) / 4294967296), ⟨by omega, by simp; omega, hstep.2.1, hstep.2.2.1, ?_⟩, by omega, ⟨rfl, rfl, rfl, rfl, rfl, rfl, rfl, rfl, iv ?_, rfl, rfl, iv (by omega), rfl⟩, blkEq ?_, trivial⟩
      · show _ + _ * B ^ (i + j + 1) = _
        rw [hstep.2.2.2, val_take_succ q j, Nat.mul_add, Nat.mul_add, Nat.pow_add]
        congr 2
        ac_rfl
      · dsimp only; omega
      · dsimp only; congr 1; omega
    · have : j = q.length := by omega
      subst this
      rw [List.take_of_length_le (Nat.le_refl _)] at j5
      have hfin : val ((o.set (i + q.length) c).take (i + q.length + 1)) = val (p.take (i + 1)) * val q := by
        rw [val_take_set o _ _ (by omega), Nat.mul_comm (B ^ (i + q.length)), j5, hps, Nat.add_mul, Nat.mul_assoc]
      repeat' (first | refine wG ?_ | refine wS ?_ ?_ <;> intro _ | refine finG ?_)
      refine ⟨i + 1, o.set (i + q.length) c, ⟨by omega, by simp; omega, j3.set _ (by rw [B_val]; omega), ?_⟩, by omega, ⟨rfl, rfl, rfl, rfl, rfl, iv (by omega), rfl⟩, blkEq ?_, trivial⟩
      · rw [← hfin, show i + 1 + q.length = i + q.length + 1 by omega]
      · first | rfl | (dsimp only; congr 1; omega)
  · have : i = p.length := by omega
    subst this
    have ht := natural_trimmed o (by omega)
    rw [trimL_limbs i3] at ht
    rw [val_take_all o (by omega), val_take_all p (Nat.le_refl _), va, vb] at i4
    rw [i4] at ht
    repeat' (first | refine wG ?_ | refine wC ht ?_ | refine wS ?_ ?_ <;> intro _ | refine finG ?_)
    rfl
theorem natural_short (a : List Nat) (d : Nat) (wa : WF a) (hla : a.length < 10000000000) (hd : 0 < d) (hdB : d < 4294967296) : Ret Tryz.prog 181 [u32s a, .int .u32 d] (· = .tup [u32s (limbs (val a / d)), .int .u32 (val a % d : Nat)]) := by
  refine ret_of_awp tab Tryz.func181 rfl rfl (Nat.le_of_ble_eq_true rfl) (fun w0 F0 => ?_)
  repeat' (first | refine wG ?_ | refine wS ?_ ?_ <;> intro _ | refine finG ?_)
  refine awp_loop2 (fun (i : Nat) (o : List Nat × Nat) => ([(0, .d (u32s a)), (1, .d (.int .u32 d)), (4, .own 9 0 a.length 111 1), (5, .d (.int .u32 o.2)), (6, .d (.int .i64 ((i : Int) - 1)))], [(9, .data 111 1 (eN .u32) 0 o.1)])) (fun i o => i ≤ a.length ∧ o.1.length = a.length ∧ WF o.1 ∧ o.2 < d ∧ val (a.drop i) = val (o.1.drop i) * d + o.2) (fun i o => i) a.length (List.replicate a.length 0, 0) ⟨by omega, by simp, wf_replicate _, hd, by simp [val]⟩ ⟨rfl, rfl, rfl, rfl, rfl, rfl⟩ ⟨rfl, trivial⟩ (fun i o h => ?_)
  obtain ⟨o, r⟩ := o
  obtain ⟨i1, i2, i3, i4, i5⟩ := h
  simp only at i2 i3 i4 i5
  by_cases h0 : 0 < i
  · obtain ⟨k, rfl⟩ : ∃ k, i = k + 1 := ⟨i - 1, by omega⟩
    have hstep := shortL_step wa i3 (show k < a.length by omega) (by omega) hd hdB i4 i5
    have ga := wa.getD k
    rw [B_val] at ga
    have hdv := bits_Div32 r (a.getD k 0) d i4 ga hdB
    have e : (((k + 1 : Nat) : Int) - 1).toNat = k := by omega
    rw [← e] at hdv
    repeat' (first | refine wG ?_ | refine wC hdv ?_ | refine wS ?_ ?_ <;> intro _ | refine finG ?_)
    refine ⟨k, (o.set k _, _), ⟨by omega, by simp; omega, hstep.2.2.1, hstep.2.1, hstep.2.2.2⟩, by omega, ⟨rfl, rfl, rfl, by rw [e]; rfl, iv (by omega), rfl⟩, blkEq ?_, trivial⟩
    rw [e]
  · have : i = 0 := by omega
    subst this
    have ht := natural_trimmed o (by omega)
    rw [trimL_limbs i3] at ht
    rw [List.drop_zero, List.drop_zero] at i5
    have e1 : val a / d = val o := by
      rw [i5, Nat.mul_comm, Nat.mul_add_div hd, Nat.div_eq_of_lt i4, Nat.add_zero]
    have e2 : val a % d = r := by rw [i5, Nat.mul_comm, Nat.mul_add_mod, Nat.mod_eq_of_lt i4]
    rw [e1, e2]
    repeat' (first | refine wG ?_ | refine wC ht ?_ | refine wS ?_ ?_ <;> intro _ | refine finTG ?_)
    exact leT
end Go.Proofs.YtejigedigmagdaaGreat

/-
  Lists of limbs of a fixed length; shifts; the steps of a long division. Conditions: as each says.
-/
namespace Go.Vw
def padL : Nat → Nat → List Nat
  | 0, _ => []
  | n + 1, v => v % B :: padL n (v / B)
theorem padL_len : ∀ n v, (padL n v).length = n
  | 0, v => rfl
  | n + 1, v => by simp [padL, padL_len n]
theorem padL_wf : ∀ n v, WF (padL n v)
  | 0, v => WF.nil
  | n + 1, v => fun x hx => by
    simp only [padL, List.mem_cons] at hx
    rcases hx with rfl | hx
    · exact Nat.mod_lt _ (by decide)
    · exact padL_wf n _ x hx
theorem padL_val : ∀ n v, val (padL n v) = v % B ^ n
  | 0, v => by simp [padL, val, Nat.mod_one]
  | n + 1, v => by
    rw [padL, val, padL_val n, Nat.pow_succ, Nat.mul_comm (B ^ n), Nat.mod_mul]
theorem wf_ext : ∀ {a b : List Nat}, WF a → WF b → a.length = b.length → val a = val b → a = b
  | [], [], _, _, _, _ => rfl
  | [], _ :: _, _, _, h, _ => by simp at h
  | _ :: _, [], _, _, h, _ => by simp at h
  | x :: a, y :: b, ha, hb, hl, hv => by
    have h1 := ha.head
    have h2 := hb.head
    simp only [val] at hv
    rw [B_val] at hv h1 h2
    have e1 : x = y := by omega
    have e2 : val a = val b := by omega
    rw [e1, wf_ext ha.tail hb.tail (by simpa using hl) e2]
theorem padL_eq {l : List Nat} {n v : Nat} (h : WF l) (hl : l.length = n) (hv : val l = v) : l = padL n v := by
  subst hl hv
  exact wf_ext h (padL_wf _ _) (padL_len _ _).symm (by rw [padL_val, Nat.mod_eq_of_lt (val_lt h)])
theorem shift_step {o a : List Nat} {i s : Nat} (ha : WF a) (ho : WF o) (hi : i + 1 < o.length) (hs : s < 32) (hlo : o.getD i 0 < 2 ^ s) (hv : val (o.take (i + 1)) = val (a.take i) * 2 ^ s) :
    (o.getD i 0 ||| (a.getD i 0 * 2 ^ s) % 4294967296) = o.getD i 0 + (a.getD i 0 * 2 ^ s) % 4294967296 ∧ o.getD i 0 + (a.getD i 0 * 2 ^ s) % 4294967296 < 4294967296 ∧ (a.getD i 0 * 2 ^ s) / 4294967296 < 2 ^ s ∧ a.getD i 0 * 2 ^ s < 18446744073709551616 ∧
    WF ((o.set i (o.getD i 0 + (a.getD i 0 * 2 ^ s) % 4294967296)).set (i + 1) ((a.getD i 0 * 2 ^ s) / 4294967296)) ∧
    val (((o.set i (o.getD i 0 + (a.getD i 0 * 2 ^ s) % 4294967296)).set (i + 1) ((a.getD i 0 * 2 ^ s) / 4294967296)).take (i + 2)) = val (a.take (i + 1)) * 2 ^ s := by
  have h1 := ha.getD i
  rw [B_val] at h1
  have hpow : 2 ^ s * 2 ^ (32 - s) = 4294967296 := by rw [← Nat.pow_add, show s + (32 - s) = 32 by omega]
  have hp0 : 0 < 2 ^ s := Nat.pow_pos (by decide)
  have hp1 : 2 ^ s ≤ 2147483648 := Nat.le_trans (Nat.pow_le_pow_right (by decide) (show s ≤ 31 by omega)) (by decide)
  obtain ⟨x, hx⟩ : ∃ x, a.getD i 0 = x := ⟨_, rfl⟩
  obtain ⟨c, hc⟩ : ∃ c, o.getD i 0 = c := ⟨_, rfl⟩
  rw [hx] at h1 ⊢
  rw [hc] at hlo ⊢
  have hlow : (x * 2 ^ s) % 4294967296 = (x % 2 ^ (32 - s)) * 2 ^ s := by
    rw [← hpow, Nat.mul_comm (2 ^ s), Nat.mul_mod_mul_right]
  have hm : x % 2 ^ (32 - s) < 2 ^ (32 - s) := Nat.mod_lt _ (Nat.pow_pos (by decide))
  have hle : (x % 2 ^ (32 - s) + 1) * 2 ^ s ≤ 4294967296 := by
    rw [← hpow, Nat.mul_comm (2 ^ s)]; exact Nat.mul_le_mul_right _ hm
  rw [Nat.add_mul, Nat.one_mul, ← hlow] at hle
  have hxs : x * 2 ^ s < 4294967296 * 2 ^ s := Nat.mul_lt_mul_of_pos_right h1 hp0
  refine ⟨?_, by omega, ?_, ?_, ?_, ?_⟩
  · rw [Nat.or_comm, hlow, or_low _ _ _ hlo, Nat.add_comm]
  · rw [Nat.div_lt_iff_lt_mul (by decide), Nat.mul_comm (2 ^ s)]; exact hxs
  · have := Nat.mul_le_mul_left 4294967296 hp1
    omega
  · refine (ho.set _ (by rw [B_val]; omega)).set _ ?_
    rw [B_val]
    have : (x * 2 ^ s) / 4294967296 < 2 ^ s := by rw [Nat.div_lt_iff_lt_mul (by decide), Nat.mul_comm (2 ^ s)]; exact hxs
    omega
  · rw [val_take_set _ _ _ (by simpa using hi), val_take_set _ _ _ (by omega), val_take_succ a, hx]
    have h2 := val_take_succ o i
    rw [hc] at h2
    have h3 := Nat.div_add_mod (x * 2 ^ s) 4294967296
    generalize hq : x * 2 ^ s / 4294967296 = q at *
    generalize hr : x * 2 ^ s % 4294967296 = r at *
    rw [Nat.pow_succ, Nat.add_mul, ← hv, h2, Nat.mul_add, Nat.mul_assoc (B ^ i) x, ← h3, Nat.mul_add, ← B_val, Nat.mul_assoc]
    omega
theorem or_word {a b : Nat} (hb : b < 4294967296) : (((a : Int) * 4294967296).toNat ||| ((b : Int)).toNat) = a * 4294967296 + b := by
  have h := or_halves a b hb
  have e : ((a : Int) * 4294967296).toNat = a * 4294967296 := by omega
  rw [e, Int.toNat_natCast, h]
theorem or_two {a b : Nat} (hb : b < 4294967296) : (((b : Int)).toNat ||| ((a : Int) * 4294967296).toNat) = b + B * a := by
  have h := or_halves a b hb
  have e : ((a : Int) * 4294967296).toNat = a * 4294967296 := by omega
  rw [e, Int.toNat_natCast, Nat.or_comm, h, B_val]
  omega
theorem log2_div {x k : Nat} (h : 1 ≤ x / 2 ^ k) : x.log2 = k + (x / 2 ^ k).log2 := by
  have hp : 0 < 2 ^ k := Nat.pow_pos (by decide)
  have hx : x ≠ 0 := fun e => by subst e; simp at h
  generalize hz : x / 2 ^ k = z at *
  have hz0 : z ≠ 0 := by omega
  have a1 : 2 ^ z.log2 ≤ z := (Nat.le_log2 hz0).1 (Nat.le_refl _)
  have a2 : z < 2 ^ (z.log2 + 1) := (Nat.log2_lt hz0).1 (Nat.lt_succ_self _)
  have b1 : z * 2 ^ k ≤ x := by rw [← hz]; exact Nat.div_mul_le_self _ _
  have b2 : x < (z + 1) * 2 ^ k := by rw [← hz, Nat.mul_comm]; exact Nat.lt_mul_div_succ x hp
  refine Nat.le_antisymm ?_ ?_
  · refine Nat.le_of_lt_succ ((Nat.log2_lt hx).2 ?_)
    refine Nat.lt_of_lt_of_le b2 ?_
    rw [show (k + z.log2).succ = (z.log2 + 1) + k by omega, Nat.pow_add]
    exact Nat.mul_le_mul_right _ a2
  · rw [Nat.le_log2 hx, Nat.add_comm, Nat.pow_add]
    exact Nat.le_trans (Nat.mul_le_mul_right _ a1) b1
end Go.Vw

/-
  A slice held against nil: what is known of the outcome. Conditions: the table of types is the program's.
-/
namespace Go.Vw
open Go.RowKit

theorem run_isNil {P : Program} {w : World} {t e t2 : TypeId} {td : TyD} (ht : TyOk P t td) (hd : td.desc = .slice e) {ev : Operand → Value} {x y : Operand} {dst : Option Tmp} {ty : TypeId} {pos : String} {after : Array Edge} {g : Option (Nat × Bool)} {p : Option Addr} {n c : Nat} (hx : ev x = .slice p n c) (hy : ev y = .slice none 0 0) (neg : Bool) :
    (execOp ev ⟨dst, .binOp (if neg then .neq else .eql) t x y t2, ty, pos, after, g⟩).run P w = .ok (.value (.bool (neg != p.isNone))) w := by
  have hu := ht.und
  rw [hd] at hu
  have h1 : (Op.equal t (.slice p n c) (.slice none 0 0)).run P w = .ok p.isNone w := by
    have : ∀ d, (Op.equalIn (d + 1) t (.slice p n c) (.slice none 0 0)).run P w = .ok p.isNone w := fun d => by
      cases p <;> simp [Op.equalIn, run_underlying hu]
    exact this 9999
  cases neg <;> simp [execOp, hx, hy, eqGuard, binOp, h1]

section
variable {X : Ctx} {all : Array Oper} {rest : List Oper} {Q : Exit → St → Prop} {s : St} {o : Oper} {d : Tmp}
theorem awpL_isNil {t t2 e : TypeId} {td : TyD} {x y : Operand} {sz : Nat} {α : Type} {en : α → List D} {z : α} {l : List α} (hop : o.op = .binOp .eql t x y t2) (hdst : o.dst = some d) (hx : s.opd x = .d (.sl sz en z l)) (hy : s.opd y = .d .nils) (hg : gd all s o = some true) (hd : dstOk X.N (some d) = true) (ht : X.T t = some td) (hds : td.desc = .slice e) (k : ∀ b : Bool, (l ≠ [] → b = false) → awpL X all rest Q (s.put (some d) (.d (.bool b)))) : awpL X all (o :: rest) Q s := by
  obtain ⟨dst, op, ty, pos, after, g⟩ := o
  cases hop; cases hdst
  intro io F a w hs
  have hvx := hs.opd x
  have hvy := hs.opd y
  rw [hx] at hvx; rw [hy] at hvy
  simp only [VR, DR] at hvx hvy
  have key : ∀ (p : Option Addr) n c, a.eval x = .slice p n c → (l ≠ [] → p.isNone = false) → wpList X.P all (lift X Q) (⟨some d, .binOp .eql t x y t2, ty, pos, after, g⟩ :: rest) a w := fun p n c e hl => by
    have hr := run_isNil (P := X.P) (w := w) (dst := some d) (ty := ty) (pos := pos) (after := after) (g := g) (t2 := t2) (X.ok _ _ ht) hds e hvy false
    refine wpList_cons (opWp_value (gd_sound (fun t _ => hs.tm t) hg) (v := .bool p.isNone) (by simpa using hr) ?_)
    exact k p.isNone hl io F _ w (hs.put (dstOk_sound hd) (by simp only [VR, DR]))
  rcases hvx with ⟨⟨p, c0, e⟩, rfl⟩ | ⟨b, off, cap, arr, ty', fz, e, _⟩
  · exact key p 0 c0 e fun h => absurd rfl h
  · exact key _ _ _ e fun _ => rfl
theorem awpL_byte {u : UInt8} (d : Tmp) (h : s.tmps d = .d (.int .u8 u.toNat)) (k : ∀ n : Nat, n < 256 → n = u.toNat → awpL X all rest Q (s.put (some d) (.d (.int .u8 n)))) : awpL X all rest Q s := by
  have := k u.toNat u.toNat_lt rfl
  rwa [put_self h] at this
end
end Go.Vw

namespace Go.Proofs.YtejigedigmagdaaGreat
open Go.Vw
attribute [local irreducible] awp awpL awpR

theorem slices_Clone (l : List Nat) (hl : l.length < 10000000000) : Ret Tryz.prog 180 [u32s l] (· = u32s l) := by
  refine ret_of_awp tab Tryz.func180 rfl rfl (Nat.le_of_ble_eq_true rfl) (fun w0 F0 => ?_)
  repeat' (first | refine wG ?_ | refine wS ?_ ?_ <;> intro _ | refine finG ?_)
  refine awpL_isNil rfl rfl rfl rfl rfl rfl rfl rfl (fun b hb => ?_)
  cases b with
  | true =>
    have : l = [] := Classical.byContradiction fun h => by simpa using hb h
    subst this
    repeat' (first | refine wG ?_ | refine wS ?_ ?_ <;> intro _ | refine finG ?_)
    rfl
  | false =>
    repeat' (first | refine wG ?_ | refine wS ?_ ?_ <;> intro _ | refine finG ?_)
    rfl
theorem natural_gcd (a b : Nat) (ha : a < 18446744073709551616) (hb : b < 18446744073709551616) : Ret Tryz.prog 179 [.int .u64 a, .int .u64 b] (· = .int .u64 (Nat.gcd a b : Nat)) := by
  refine ret_of_awp tab Tryz.func179 rfl rfl (Nat.le_of_ble_eq_true rfl) (fun w0 F0 => ?_)
  repeat' (first | refine wG ?_ | refine rg 2 5 ?_ | refine wS ?_ ?_ <;> intro _ | refine finG ?_)
  refine awp_loop2 (fun (x y : Nat) => ([(0, .d (.int .u64 x)), (1, .d (.int .u64 y))], [])) (fun x y => x < 18446744073709551616 ∧ y < 18446744073709551616 ∧ Nat.gcd x y = Nat.gcd a b) (fun x y => y) a b ⟨ha, hb, rfl⟩ ⟨rfl, rfl, rfl⟩ trivial (fun x y h => ?_)
  obtain ⟨hx, hy, hg⟩ := h
  by_cases h0 : y = 0
  · subst h0
    repeat' (first | refine wG ?_ | refine rg 2 5 ?_ | refine wS ?_ ?_ <;> intro _ | refine finG ?_)
    rw [← hg, Nat.gcd_zero_right]
  · have hm := Nat.mod_lt x (show 0 < y by omega)
    repeat' (first | refine wG ?_ | refine rg 2 5 ?_ | refine wS ?_ ?_ <;> intro _ | refine finG ?_)
    refine ⟨y, x % y, ⟨hy, by omega, ?_⟩, hm, ⟨rfl, iv (by omega), rfl⟩, trivial⟩
    rw [← hg, Nat.gcd_comm y, Nat.gcd_comm x, Nat.gcd_rec y x, Nat.gcd_comm]
set_option maxRecDepth 100000 in
theorem bits_Len32 (x : Nat) (hx : x < 4294967296) (h0 : 0 < x) : Ret Tryz.prog 221 [.int .u32 x] (· = .int .i64 (x.log2 + 1 : Nat)) := by
  refine ret_of_awp tab Tryz.func221 rfl rfl (Nat.le_of_ble_eq_true rfl) (fun w0 F0 => ?_)
  repeat' (first | refine wG ?_ | refine wS ?_ ?_ <;> intro _ | refine finG ?_)
  · refine stepQ false tt stt rfl rfl rfl ⟨by omega, Nat.lt_of_lt_of_le (show _ < 256 by omega) (Nat.le_of_ble_eq_true rfl)⟩ ?_
    refine awpL_byte 16 rfl (fun n hn he => ?_)
    repeat' (first | refine wG ?_ | refine wS ?_ ?_ <;> intro _ | refine finG ?_)
    have hj : ((x : Int) / 65536 / 256).toNat = x / 2 ^ 24 := by omega
    have hl := log2_div (x := x) (k := 24) (by omega)
    rw [hl]
    rw [hj] at he
    have hz : x / 2 ^ 24 < 256 := by omega
    have hz1 : 1 ≤ x / 2 ^ 24 := by omega
    generalize x / 2 ^ 24 = z at *
    have e : n = z.log2 + 1 := by
      rw [he]
      clear he hl hj
      revert hz1
      revert hz
      revert z
      decide +kernel
    rw [e]
    congr 1 <;> omega
  · refine stepQ false tt stt rfl rfl rfl ⟨by omega, Nat.lt_of_lt_of_le (show _ < 256 by omega) (Nat.le_of_ble_eq_true rfl)⟩ ?_
    refine awpL_byte 16 rfl (fun n hn he => ?_)
    repeat' (first | refine wG ?_ | refine wS ?_ ?_ <;> intro _ | refine finG ?_)
    have hj : ((x : Int) / 65536).toNat = x / 2 ^ 16 := by omega
    have hl := log2_div (x := x) (k := 16) (by omega)
    rw [hl]
    rw [hj] at he
    have hz : x / 2 ^ 16 < 256 := by omega
    have hz1 : 1 ≤ x / 2 ^ 16 := by omega
    generalize x / 2 ^ 16 = z at *
    have e : n = z.log2 + 1 := by
      rw [he]
      clear he hl hj
      revert hz1
      revert hz
      revert z
      decide +kernel
    rw [e]
    congr 1 <;> omega
  · refine stepQ false tt stt rfl rfl rfl ⟨by omega, Nat.lt_of_lt_of_le (show _ < 256 by omega) (Nat.le_of_ble_eq_true rfl)⟩ ?_
    refine awpL_byte 16 rfl (fun n hn he => ?_)
    repeat' (first | refine wG ?_ | refine wS ?_ ?_ <;> intro _ | refine finG ?_)
    have hj : ((x : Int) / 256).toNat = x / 2 ^ 8 := by omega
    have hl := log2_div (x := x) (k := 8) (by omega)
    rw [hl]
    rw [hj] at he
    have hz : x / 2 ^ 8 < 256 := by omega
    have hz1 : 1 ≤ x / 2 ^ 8 := by omega
    generalize x / 2 ^ 8 = z at *
    have e : n = z.log2 + 1 := by
      rw [he]
      clear he hl hj
      revert hz1
      revert hz
      revert z
      decide +kernel
    rw [e]
    congr 1 <;> omega
  · refine stepQ false tt stt rfl rfl rfl ⟨by omega, Nat.lt_of_lt_of_le (show _ < 256 by omega) (Nat.le_of_ble_eq_true rfl)⟩ ?_
    refine awpL_byte 16 rfl (fun n hn he => ?_)
    repeat' (first | refine wG ?_ | refine wS ?_ ?_ <;> intro _ | refine finG ?_)
    have hj : ((x : Int)).toNat = x / 2 ^ 0 := by omega
    have hl := log2_div (x := x) (k := 0) (by omega)
    rw [hl]
    rw [hj] at he
    have hz : x / 2 ^ 0 < 256 := by omega
    have hz1 : 1 ≤ x / 2 ^ 0 := by omega
    generalize x / 2 ^ 0 = z at *
    have e : n = z.log2 + 1 := by
      rw [he]
      clear he hl hj
      revert hz1
      revert hz
      revert z
      decide +kernel
    rw [e]
    congr 1 <;> omega
set_option maxHeartbeats 2000000 in
theorem natural_Uint (a : List Nat) (wa : WF a) (hla : a.length < 10000000000) : Ret Tryz.prog 178 [u32s a] (· = if nv a < 18446744073709551616 then .tup [.int .u64 (nv a), .bool true] else .tup [.int .u64 0, .bool false]) := by
  have h1 := natural_value a (by omega)
  rw [takeL_limbs wa] at h1
  have vl := val_limbs (nv a)
  have wl := wf_limbs (nv a)
  have ll := @length_limbs_le (nv a) 2
  have lt := lt_pow_length (nv a)
  have ln := takeL_le a
  rw [takeL_limbs wa] at ln
  generalize nv a = n at *
  generalize limbs n = p at *
  by_cases hlt : n < 18446744073709551616
  · rw [if_pos hlt]
    have hp := ll (by rw [B_val]; exact hlt)
    refine ret_of_awp tab Tryz.func178 rfl rfl (Nat.le_of_ble_eq_true rfl) (fun w0 F0 => ?_)
    repeat' (first | refine wG ?_ | refine wC h1 ?_ | refine wS ?_ ?_ <;> intro _ | refine finTG ?_)
    refine awp_loop1 (fun (i : Nat) => ([(0, .d (u32s p)), (2, .d (.int .u64 (val (p.take i)))), (11, .d (u32s p)), (12, .d (.int .i64 p.length)), (13, .d (.int .i64 i))], [])) (fun i => i ≤ p.length) (fun i => p.length - i) 0 (by omega) ⟨rfl, rfl, rfl, rfl, rfl, rfl⟩ trivial (fun i hi => ?_)
    by_cases hin : i < p.length
    · have hi01 : i = 0 ∨ i = 1 := by omega
      have gp := wl.getD i
      rw [B_val] at gp
      have hts := val_take_succ p i
      have hvl := val_lt (wl.take i)
      rcases hi01 with rfl | rfl
      · have hv0 : val (p.take 0) = 0 := rfl
        repeat' (first | refine wG ?_ | refine wS ?_ ?_ <;> intro _ | refine finG ?_)
        refine ⟨1, by omega, by omega, ⟨rfl, iv ?_, rfl, rfl, iv (by omega), rfl⟩, trivial⟩
        rw [hts, hv0]
        simp
      · have hl1 : (p.take 1).length = 1 := by simp; omega
        rw [hl1, Nat.pow_one, B_val] at hvl
        repeat' (first | refine wG ?_ | refine wS ?_ ?_ <;> intro _ | refine finG ?_)
        refine ⟨2, by omega, by omega, ⟨rfl, iv ?_, rfl, rfl, iv (by omega), rfl⟩, trivial⟩
        have hor := or_two (a := p.getD 1 0) hvl
        rw [hts, Nat.pow_one, hor]
    · have : i = p.length := by omega
      subst this
      rw [List.take_of_length_le (Nat.le_refl _), vl]
      repeat' (first | refine wG ?_ | refine wS ?_ ?_ <;> intro _ | refine finTG ?_)
      exact leT
  · rw [if_neg hlt]
    have hp : 2 < p.length := Classical.byContradiction fun h => by
      have := Nat.pow_le_pow_right (show 0 < B by decide) (show p.length ≤ 2 by omega)
      rw [B_val] at this lt
      omega
    refine ret_of_awp tab Tryz.func178 rfl rfl (Nat.le_of_ble_eq_true rfl) (fun w0 F0 => ?_)
    repeat' (first | refine wG ?_ | refine wC h1 ?_ | refine wS ?_ ?_ <;> intro _ | refine finTG ?_)
    exact leT
theorem bits_LeadingZeros32 (x : Nat) (hx : x < 4294967296) (h0 : 0 < x) : Ret Tryz.prog 200 [.int .u32 x] (· = .int .i64 (31 - x.log2 : Nat)) := by
  have h := bits_Len32 x hx h0
  have hl : x.log2 < 32 := (Nat.log2_lt (by omega)).2 hx
  generalize x.log2 = g at *
  refine ret_of_awp tab Tryz.func200 rfl rfl (Nat.le_of_ble_eq_true rfl) (fun w0 F0 => ?_)
  repeat' (first | refine wG ?_ | refine wC h ?_ | refine wS ?_ ?_ <;> intro _ | refine finG ?_)
  congr 1
  omega
theorem natural_shifted (a : List Nat) (s : Nat) (wa : WF a) (hla : a.length < 10000000000) (hs : s < 32) : RetB Tryz.prog 201 [.d (u32s a), .d (.int .i64 s)] (lookB []) (.own 12 0 (a.length + 1) 111 1) (lookB [(12, .data 111 1 (eN .u32) 0 (padL (a.length + 1) (val a * 2 ^ s)))]) := by
  refine retB_of_awp tab [] Tryz.func201 rfl rfl rfl (Nat.le_of_ble_eq_true rfl) rfl trivial (fun w0 F0 A io0 => ?_)
  repeat' (first | refine wG ?_ | refine wS ?_ ?_ <;> intro _ | refine wB ?_ ?_)
  refine awp_loop2 (fun (i : Nat) (o : List Nat) => ([(0, .d (u32s a)), (1, .d (.int .i64 s)), (5, .own 12 0 (a.length + 1) 111 1), (13, .d (u32s a)), (14, .d (.int .i64 a.length)), (15, .d (.int .i64 i))], [(12, .data 111 1 (eN .u32) 0 o)])) (fun i o => i ≤ a.length ∧ o.length = a.length + 1 ∧ WF o ∧ o.getD i 0 < 2 ^ s ∧ val (o.take (i + 1)) = val (a.take i) * 2 ^ s) (fun i o => a.length - i) 0 (List.replicate (a.length + 1) 0) ⟨by omega, by simp, wf_replicate _, by simp [List.replicate_succ, Nat.pow_pos], by simp [List.replicate_succ, val]⟩ ⟨rfl, rfl, rfl, rfl, rfl, rfl, rfl⟩ ⟨rfl, trivial⟩ (fun i o h => ?_)
  obtain ⟨i1, i2, i3, i4, i5⟩ := h
  by_cases hin : i < a.length
  · obtain ⟨s1, s2, s3, s4, s5, s6⟩ := shift_step wa i3 (show i + 1 < o.length by omega) hs i4 i5
    have ga := wa.getD i
    have go := i3.getD i
    rw [B_val] at ga go
    have hsh : ((a.getD i 0 : Nat) : Int) * 2 ^ ((s : Int)).toNat = ((a.getD i 0 * 2 ^ s : Nat) : Int) := by rw [Int.toNat_natCast, Int.natCast_mul, Int.natCast_pow]; rfl
    have keep := And.intro s1 (And.intro s3 (And.intro s5 s6))
    clear s1 s3 s5 s6 i5
    generalize hP : (2 : Int) ^ ((s : Int)).toNat = P at hsh
    repeat' (first | refine wG ?_ | refine wS ?_ ?_ <;> intro _ | refine wB ?_ ?_)
    obtain ⟨k1, k2, k3, k4⟩ := keep
    refine ⟨i + 1, (o.set i (o.getD i 0 + a.getD i 0 * 2 ^ s % 4294967296)).set (i + 1) (a.getD i 0 * 2 ^ s / 4294967296), ⟨by omega, by simp; omega, k3, ?_, k4⟩, by omega, ⟨rfl, rfl, rfl, rfl, rfl, iv (by omega), rfl⟩, blkEq ?_, trivial⟩
    · simp [List.getD_eq_getElem?_getD, show i + 1 < o.length by omega]
      simpa using k2
    · have e1 : (((a.getD i 0 : Nat) : Int) * 2 ^ ((s : Int)).toNat % 18446744073709551616) = ((a.getD i 0 * 2 ^ s : Nat) : Int) := by
        rw [hP, hsh]; exact Int.emod_eq_of_lt (Int.natCast_nonneg _) (Int.ofNat_lt.2 s4)
      rw [e1]
      have e2 : (((a.getD i 0 * 2 ^ s : Nat) : Int) % 4294967296).toNat = a.getD i 0 * 2 ^ s % 4294967296 := by omega
      have e3 : (((a.getD i 0 * 2 ^ s : Nat) : Int) / 4294967296).toNat = a.getD i 0 * 2 ^ s / 4294967296 := by omega
      rw [e2, e3, Int.toNat_natCast, k1]
  · have : i = a.length := by omega
    subst this
    rw [val_take_all o (by omega), val_take_all a (Nat.le_refl _)] at i5
    have e := padL_eq i3 i2 i5
    subst e
    repeat' (first | refine wG ?_ | refine wS ?_ ?_ <;> intro _ | refine wB ?_ ?_)
    · exact leVT
    · exact ⟨rfl, trivial⟩
end Go.Proofs.YtejigedigmagdaaGreat

/-
  A part of a row of limbs rewritten limb by limb: a multiple taken away, a number put back. Conditions: as each says.
-/
namespace Go.Vw
def mid (U : List Nat) (j : Nat) (w : List Nat) : List Nat := U.take j ++ w ++ U.drop (j + w.length)
theorem mid_nil (U : List Nat) (j : Nat) : mid U j [] = U := by simp [mid]
theorem mid_len {U w : List Nat} {j : Nat} (h : j + w.length ≤ U.length) : (mid U j w).length = U.length := by simp [mid]; omega
theorem mid_wf {U w : List Nat} {j : Nat} (hU : WF U) (hw : WF w) : WF (mid U j w) := WF.append (WF.append (hU.take j) hw) (hU.drop _)
theorem mid_getD {U w : List Nat} {j : Nat} (h : j + w.length < U.length) : (mid U j w).getD (j + w.length) 0 = U.getD (j + w.length) 0 := by
  rw [List.getD_eq_getElem?_getD, List.getD_eq_getElem?_getD, mid, List.getElem?_append_right (by simp; omega)]
  simp [show min j U.length = j by omega, List.getElem?_drop]
theorem mid_set {U w : List Nat} {j d : Nat} (h : j + w.length < U.length) : (mid U j w).set (j + w.length) d = mid U j (w ++ [d]) := by
  unfold mid
  have hl : (U.take j ++ w).length = j + w.length := by simp; omega
  rw [List.set_append_right _ _ (by omega), hl, Nat.sub_self, List.drop_eq_getElem_cons h, List.set_cons_zero]
  simp [Nat.add_assoc]
theorem win_succ {U : List Nat} {j i : Nat} (h : j + i < U.length) : val ((U.drop j).take (i + 1)) = val ((U.drop j).take i) + B ^ i * U.getD (j + i) 0 := by
  rw [val_take_succ]
  congr 2
  simp [List.getD_eq_getElem?_getD, List.getElem?_drop]
theorem redL_step {U w v : List Nat} {j q c b d : Nat} (hU : WF U) (hw : WF w) (hv : WF v) (hj : j + w.length < U.length) (hq : q < 4294967296) (hc : c < 4294967296) (hb : b ≤ 1) (hval : val w + q * val (v.take w.length) = val ((U.drop j).take w.length) + B ^ w.length * (b + c)) (hcb : c * B ^ w.length ≤ q * val (v.take w.length))
    (hd : (d : Int) = (U.getD (j + w.length) 0 : Int) - ((c + q * v.getD w.length 0) % 4294967296 : Nat) - b + (if U.getD (j + w.length) 0 < (c + q * v.getD w.length 0) % 4294967296 + b then 4294967296 else 0)) :
    c + q * v.getD w.length 0 < 18446744073709551616 ∧ (c + q * v.getD w.length 0) / 4294967296 < 4294967296 ∧ WF (w ++ [d]) ∧ val (w ++ [d]) + q * val (v.take (w.length + 1)) = val ((U.drop j).take (w.length + 1)) + B ^ (w.length + 1) * ((if U.getD (j + w.length) 0 < (c + q * v.getD w.length 0) % 4294967296 + b then 1 else 0) + (c + q * v.getD w.length 0) / 4294967296) ∧ (c + q * v.getD w.length 0) / 4294967296 * B ^ (w.length + 1) ≤ q * val (v.take (w.length + 1)) := by
  have h1 := hU.getD (j + w.length)
  have h2 := hv.getD w.length
  rw [B_val] at h1 h2
  have hqy : q * v.getD w.length 0 ≤ 4294967295 * 4294967295 := Nat.mul_le_mul (by omega) (by omega)
  rw [win_succ hj, val_snoc, val_take_succ v, Nat.pow_succ]
  obtain ⟨u, hu⟩ : ∃ u, U.getD (j + w.length) 0 = u := ⟨_, rfl⟩
  obtain ⟨s, hs⟩ : ∃ s, c + q * v.getD w.length 0 = s := ⟨_, rfl⟩
  rw [hu] at h1 hd ⊢
  rw [hs] at hd ⊢
  obtain ⟨e, he, hde⟩ : ∃ e, (if u < s % 4294967296 + b then 1 else 0) = e ∧ d + s % 4294967296 + b = u + e * B := by
    refine ⟨_, rfl, ?_⟩
    rw [B_val]
    split at hd <;> split <;> omega
  rw [he]
  have hdB : d < 4294967296 := by split at hd <;> omega
  have hsq : s % 4294967296 + s / 4294967296 * B = s := by rw [B_val]; omega
  refine ⟨by omega, by omega, hw.snoc (by rw [B_val]; exact hdB), ?_, ?_⟩
  · have h4 : B ^ w.length * d + q * (B ^ w.length * v.getD w.length 0) + B ^ w.length * (b + c) = B ^ w.length * u + B ^ w.length * B * (e + s / 4294967296) := by
      have e1 : q * (B ^ w.length * v.getD w.length 0) = B ^ w.length * (q * v.getD w.length 0) := by ac_rfl
      rw [e1, ← Nat.mul_add, ← Nat.mul_add, Nat.mul_assoc, ← Nat.mul_add]
      congr 1
      have e2 : B * (e + s / 4294967296) = e * B + s / 4294967296 * B := by rw [Nat.mul_add, Nat.mul_comm B, Nat.mul_comm B]
      rw [e2]
      omega
    rw [Nat.mul_add q]
    omega
  · have h5 : s / 4294967296 * B * B ^ w.length ≤ s * B ^ w.length := Nat.mul_le_mul_right _ (by omega)
    have e1 : s / 4294967296 * (B ^ w.length * B) = s / 4294967296 * B * B ^ w.length := by ac_rfl
    have e2 : q * (val (v.take w.length) + B ^ w.length * v.getD w.length 0) = q * val (v.take w.length) + q * v.getD w.length 0 * B ^ w.length := by rw [Nat.mul_add]; congr 1; ac_rfl
    have e3 : s * B ^ w.length = c * B ^ w.length + q * v.getD w.length 0 * B ^ w.length := by rw [← hs, Nat.add_mul]
    rw [e1, e2]
    omega
theorem redL_done {w v : List Nat} {q c b W L : Nat} (hw : WF w) (hL : w.length = L) (hv : q * val v < B ^ L) (hb : b ≤ 1) (hval : val w + q * val v = W + B ^ L * (b + c)) (hcb : c * B ^ L ≤ q * val v) (hW : W < B ^ L) : w = padL L (if W < q * val v then W + B ^ L - q * val v else W - q * val v) ∧ (b ≠ 0 ↔ W < q * val v) := by
  have hp : 0 < B ^ L := Nat.pow_pos (by decide)
  have hc : c = 0 := by
    rcases Nat.eq_zero_or_pos c with h | h
    · exact h
    · have := Nat.mul_le_mul_right (B ^ L) (show 1 ≤ c from h); omega
  subst hc
  have hlt := val_lt hw
  rw [hL] at hlt
  have hb01 : b = 0 ∨ b = 1 := by omega
  rcases hb01 with rfl | rfl
  · rw [Nat.add_zero, Nat.mul_zero] at hval
    refine ⟨padL_eq hw hL ?_, by omega⟩
    rw [if_neg (by omega)]; omega
  · rw [Nat.add_zero, Nat.mul_one] at hval
    refine ⟨padL_eq hw hL ?_, by omega⟩
    rw [if_pos (by omega)]; omega
theorem resL_step {U w v : List Nat} {j c : Nat} (hU : WF U) (hw : WF w) (hv : WF v) (hj : j + w.length < U.length) (hc : c ≤ 1) (hval : val w + c * B ^ w.length = val ((U.drop j).take w.length) + val (v.take w.length)) :
    WF (w ++ [(U.getD (j + w.length) 0 + v.getD w.length 0 + c) % 4294967296]) ∧ (U.getD (j + w.length) 0 + v.getD w.length 0 + c) / 4294967296 ≤ 1 ∧ val (w ++ [(U.getD (j + w.length) 0 + v.getD w.length 0 + c) % 4294967296]) + (U.getD (j + w.length) 0 + v.getD w.length 0 + c) / 4294967296 * B ^ (w.length + 1) = val ((U.drop j).take (w.length + 1)) + val (v.take (w.length + 1)) := by
  have h1 := hU.getD (j + w.length)
  have h2 := hv.getD w.length
  rw [B_val] at h1 h2
  refine ⟨hw.snoc (by rw [B_val]; omega), by omega, ?_⟩
  rw [win_succ hj, val_snoc, val_take_succ v, Nat.pow_succ]
  obtain ⟨s, hs⟩ : ∃ s, U.getD (j + w.length) 0 + v.getD w.length 0 + c = s := ⟨_, rfl⟩
  rw [hs]
  have h3 : s % 4294967296 + s / 4294967296 * B = s := by rw [B_val]; omega
  have h4 : B ^ w.length * (s % 4294967296) + s / 4294967296 * (B ^ w.length * B) = B ^ w.length * s := by
    conv => rhs; rw [← h3, Nat.mul_add]
    rw [← Nat.mul_assoc, Nat.mul_comm (s / 4294967296), Nat.mul_assoc]
  rw [Nat.add_assoc, h4, ← hs, Nat.mul_add, Nat.mul_add]
  rw [Nat.mul_comm c] at hval
  omega
theorem resL_done {w : List Nat} {c W V L : Nat} (hw : WF w) (hL : w.length = L) (hval : val w + c * B ^ L = W + V) : w = padL L ((W + V) % B ^ L) := by
  have hlt := val_lt hw
  rw [hL] at hlt
  refine padL_eq hw hL ?_
  rw [← hval, Nat.add_mul_mod_self_right, Nat.mod_eq_of_lt hlt]
theorem est_init {b t u0 v1 v0 : Nat} (hb : 0 < b) (hv : 0 < v1) (hu : u0 < b) : est b (t * b + u0) (v1 * b + v0) ≤ t / v1 := by
  have h1 : (t * b + u0) / (v1 * b + v0) ≤ t / v1 := by
    have hlt := Nat.lt_mul_div_succ t hv
    refine Nat.le_of_lt_succ ((Nat.div_lt_iff_lt_mul (by have := Nat.mul_pos hv hb; omega)).2 ?_)
    have h2 : (t + 1) * b ≤ v1 * (t / v1 + 1) * b := Nat.mul_le_mul_right _ hlt
    have e : v1 * (t / v1 + 1) * b = (t / v1 + 1) * (v1 * b) := by ac_rfl
    rw [e, Nat.add_mul t 1 b] at h2
    rw [Nat.succ_eq_add_one, Nat.mul_add]
    generalize (t / v1 + 1) * (v1 * b) = x at *
    omega
  unfold est; omega
end Go.Vw
