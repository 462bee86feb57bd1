/-
  Contracts of functions of the program, and the layer that they are walked with: R02 R03 Ints R04 Rats R05 C03. Conditions: as each says.
-/
import Derived.Test.YtoppaphffnojdaaGreatA04
set_option linter.unusedVariables false
set_option linter.unusedSimpArgs false
namespace Go.Proofs.YtoppaphffnojdaaGreat
open Go.Vw
attribute [local irreducible] awp awpL awpR

theorem sub_step {a b l : List Nat} {c x y : Nat} (ha : WF a) (hb : WF b) (hl : WF l) (hc : c ≤ 1) (hv : val l + val (b.take l.length) = val (a.take l.length) + c * B ^ l.length) (hx : x = (a.getD l.length 0 + 4294967296 - b.getD l.length 0 - c) % 4294967296) (hy : y = 1 - (a.getD l.length 0 + 4294967296 - b.getD l.length 0 - c) / 4294967296) :
    WF (l ++ [x]) ∧ y ≤ 1 ∧ val (l ++ [x]) + val (b.take (l ++ [x]).length) = val (a.take (l ++ [x]).length) + y * B ^ (l ++ [x]).length := by
  have h1 := ha.getD l.length
  have h2 := hb.getD l.length
  simp only [B_val] at h1 h2
  refine ⟨hl.snoc (by rw [B_val]; omega), by omega, ?_⟩
  rw [val_snoc, List.length_append, List.length_singleton, val_take_succ, val_take_succ, Nat.pow_succ]
  have h3 : x + b.getD l.length 0 + c = a.getD l.length 0 + y * B := by rw [B_val]; omega
  have h4 : B ^ l.length * x + B ^ l.length * b.getD l.length 0 + c * B ^ l.length = B ^ l.length * a.getD l.length 0 + y * (B ^ l.length * B) := by
    rw [Nat.mul_comm c, ← Nat.mul_add, ← Nat.mul_add, h3, Nat.mul_add, Nat.mul_comm y B, Nat.mul_comm y, ← Nat.mul_assoc]
  omega

theorem ref01_Sub (a b : List Nat) (hla : a.length < 100000000000) (hlb : b.length < 100000000000) (wa : WF a) (wb : WF b) : Ret Tryz.prog 125 [u32s a, u32s b] (· = .tup [u32s (limbs (nv a - nv b)), .bool (decide (nv b ≤ nv a))]) := by
  have la := length_limbs_nv wa
  have lb := length_limbs_nv wb
  have ea := takeL_limbs wa
  have eb := takeL_limbs wb
  generalize nv a = m at *
  generalize nv b = n at *
  have wa' := wf_limbs m
  have wb' := wf_limbs n
  have va := val_limbs m
  have vb := val_limbs n
  have ta := ref01_Take a (by omega)
  have tb := ref01_Take b (by omega)
  rw [ea] at ta
  rw [eb] at tb
  have hcmp := ref01_compare m n (by omega) (by omega)
  have lc := @limbs_len_mono n m
  generalize limbs m = a' at *
  generalize limbs n = b' at *
  refine ret_of_awp tab Tryz.func125 rfl rfl (Nat.le_of_ble_eq_true rfl) (fun w0 F0 => ?_)
  repeat' (first
    | (show awpL _ _ _ _ _; first | refine goL ?_ | refine cl 122 tt rfl rfl rfl (hr := ta) (k := ?_) | refine cl 122 tt rfl rfl rfl (hr := tb) (k := ?_) | refine cl 149 tt rfl rfl rfl (hr := hcmp) (k := ?_) | (refine gdLD rfl rfl (fun _ => ?_) (fun _ => ?_) <;> try (exfalso; omega)) | (refine gdLN rfl rfl (fun _ => ?_) (fun _ => ?_) <;> try (exfalso; omega)) | refine gdL rfl rfl (fun _ => ?_) (fun _ => ?_))
    | (show awp _ _ _ _; first | refine goA ?_ | (refine awp_condD rfl (fun _ => ?_) (fun _ => ?_) <;> try (exfalso; omega)) | (refine awp_condN rfl (fun _ => ?_) (fun _ => ?_) <;> try (exfalso; omega)) | refine awp_cond rfl (fun _ => ?_) (fun _ => ?_))
    | (show andThen _ _ _ _; first | refine goN ?_)
    | (show inBlock _ _ _ _; first | refine goB ?_)
    | (show awpR _ _ _ _ _ _; first | refine goR ?_ | refine clR 122 tt rfl rfl rfl (hr := ta) (k := ?_) | refine clR 122 tt rfl rfl rfl (hr := tb) (k := ?_) | refine clR 149 tt rfl rfl rfl (hr := hcmp) (k := ?_) | (refine gdRD rfl rfl (fun _ => ?_) (fun _ => ?_) <;> try (exfalso; omega)) | (refine gdRN rfl rfl (fun _ => ?_) (fun _ => ?_) <;> try (exfalso; omega)) | refine gdR rfl rfl (fun _ => ?_) (fun _ => ?_))
    | (show retPost _ _ _ _ _; first | refine finF true rfl rfl sc ?_ | refine finF false rfl rfl sc ?_ | refine finC false rfl rfl sc sc ?_ | refine finN rfl rfl sc ?_ | refine finL true rfl rfl sc rfl (LeR.cons rfl leL LeR.nil) ?_ | refine finT true rfl rfl sc ?_ | refine finT false rfl rfl sc ?_ | refine finE true rfl rfl sc ?_ | refine finE false rfl rfl sc ?_))
  · rename_i h
    have h := (cmpN_neg m n).1 h
    rw [show m - n = 0 by omega, limbs_zero, decide_eq_false (show ¬ n ≤ m by omega)]
    exact leT
  rename_i h
  have h := mt (cmpN_neg m n).2 h
  have lc := lc (by omega)
  refine awp_adopt 6 38 56 1 (eN .u32) 0 rfl ?_
  refine awp_loop2 (fun (l : List Nat) (c : Nat) => ([(0, .d (u32s a')), (1, .d (u32s b')), (6, .own 38 0 l.length 56 1), (7, .d (.int .u64 c)), (8, .d (.int .i64 l.length))], [(38, .data 56 1 (eN .u32) 0 l)])) (fun l c => l.length ≤ a'.length ∧ WF l ∧ c ≤ 1 ∧ val l + val (b'.take l.length) = val (a'.take l.length) + c * B ^ l.length) (fun l c => a'.length - l.length) [] 0 ⟨by simp, WF.nil, by simp, by simp [val]⟩ ⟨rfl, rfl, rfl, rfl, rfl, rfl⟩ ⟨rfl, trivial⟩ (fun l c hi => ?_)
  obtain ⟨h1, h2, h3, h4⟩ := hi
  have g1 := wa'.getD l.length
  have g2 := wb'.getD l.length
  simp only [B_val] at g1 g2
  repeat' (first
    | (show awpL _ _ _ _ _; first | refine goL ?_ | refine cl 128 tt rfl rfl rfl (hr := ref01_limb _ _ _ (Int.toNat_natCast _) (by omega) wa' (by omega) (by omega)) (k := ?_) | refine cl 128 tt rfl rfl rfl (hr := ref01_limb _ _ _ (Int.toNat_natCast _) (by omega) wb' (by omega) (by omega)) (k := ?_) | refine cl 129 tt rfl rfl rfl (hr := ref01_trim _ (by omega)) (k := ?_) | (refine gdLD rfl rfl (fun _ => ?_) (fun _ => ?_) <;> try (exfalso; omega)) | (refine gdLN rfl rfl (fun _ => ?_) (fun _ => ?_) <;> try (exfalso; omega)) | refine gdL rfl rfl (fun _ => ?_) (fun _ => ?_))
    | (show awp _ _ _ _; first | refine goA ?_ | (refine awp_condD rfl (fun _ => ?_) (fun _ => ?_) <;> try (exfalso; omega)) | (refine awp_condN rfl (fun _ => ?_) (fun _ => ?_) <;> try (exfalso; omega)) | refine awp_cond rfl (fun _ => ?_) (fun _ => ?_))
    | (show andThen _ _ _ _; first | refine goN ?_)
    | (show inBlock _ _ _ _; first | refine goB ?_)
    | (show awpR _ _ _ _ _ _; first | refine goR ?_ | refine clR 128 tt rfl rfl rfl (hr := ref01_limb _ _ _ (Int.toNat_natCast _) (by omega) wa' (by omega) (by omega)) (k := ?_) | refine clR 128 tt rfl rfl rfl (hr := ref01_limb _ _ _ (Int.toNat_natCast _) (by omega) wb' (by omega) (by omega)) (k := ?_) | refine clR 129 tt rfl rfl rfl (hr := ref01_trim _ (by omega)) (k := ?_) | (refine gdRD rfl rfl (fun _ => ?_) (fun _ => ?_) <;> try (exfalso; omega)) | (refine gdRN rfl rfl (fun _ => ?_) (fun _ => ?_) <;> try (exfalso; omega)) | refine gdR rfl rfl (fun _ => ?_) (fun _ => ?_))
    | (show retPost _ _ _ _ _; first | refine finF true rfl rfl sc ?_ | refine finF false rfl rfl sc ?_ | refine finC false rfl rfl sc sc ?_ | refine finN rfl rfl sc ?_ | refine finL true rfl rfl sc rfl (LeR.cons rfl leL LeR.nil) ?_ | refine finT true rfl rfl sc ?_ | refine finT false rfl rfl sc ?_ | refine finE true rfl rfl sc ?_ | refine finE false rfl rfl sc ?_))
  · exact ⟨_, 1 - (a'.getD l.length 0 + 4294967296 - b'.getD l.length 0 - c) / 4294967296, ⟨by simp; omega, sub_step wa' wb' h2 h3 h4 (by omega) rfl⟩, by simp; omega, ⟨rfl, rfl, rfl, iv (by omega), iv (by simp), rfl⟩, rfl, trivial⟩
  · rename_i h5
    rw [val_take_all a' (by omega), val_take_all b' (by omega)] at h4
    have g3 := val_lt h2
    have g9 : c = 0 := by
      refine Nat.le_zero.1 (Nat.le_of_not_lt fun hc => ?_)
      have := Nat.mul_le_mul_right (B ^ l.length) (show 1 ≤ c from hc)
      omega
    subst g9
    rw [trimL_limbs h2, show val l = m - n by omega, decide_eq_true (show n ≤ m by omega)]
    exact leT

theorem times_step {a l : List Nat} {c s x y v by' i : Nat} (ha : WF a) (hl : WF l) (hc : c < B) (hvB : v < B) (hi : l.length = by' + i) (hv : val l + c * B ^ l.length = B ^ by' * (val (a.take i) * v)) (hs : s = a.getD i 0 * v + c) (hx : x = s % 4294967296) (hy : y = s / 4294967296) :
    WF (l ++ [x]) ∧ y < B ∧ val (l ++ [x]) + y * B ^ (l ++ [x]).length = B ^ by' * (val (a.take (i + 1)) * v) := by
  have h1 := ha.getD i
  have h0 : s < B * B := by
    have := Nat.mul_le_mul (Nat.le_sub_one_of_lt h1) (Nat.le_sub_one_of_lt hvB)
    rw [B_val] at *; omega
  refine ⟨hl.snoc (by rw [B_val]; omega), by rw [B_val] at *; omega, ?_⟩
  rw [val_snoc, List.length_append, List.length_singleton, val_take_succ, Nat.pow_succ]
  have h3 : x + y * B = s := by rw [B_val]; omega
  have h4 : B ^ l.length * x + y * (B ^ l.length * B) = B ^ l.length * s := by
    rw [← h3, Nat.mul_add, Nat.mul_comm y B, Nat.mul_comm y, Nat.mul_assoc]
  rw [Nat.add_assoc, h4, hs, Nat.mul_add, Nat.add_mul, Nat.mul_add, ← hv, hi, Nat.pow_add]
  have : B ^ by' * (B ^ i * a.getD i 0 * v) = B ^ by' * B ^ i * (a.getD i 0 * v) := by
    simp only [Nat.mul_assoc]
  rw [this, Nat.mul_comm c]; omega

theorem val_rep (n : Nat) : val (List.replicate n 0) = 0 := by
  induction n with
  | zero => rfl
  | succ n ih => rw [List.replicate_succ, val, ih]; rfl
theorem wf_rep (n : Nat) : WF (List.replicate n 0) := fun x hx => by rw [List.eq_of_mem_replicate hx]; decide

theorem ref01_times (m v k : Nat) (hm : (limbs m).length < 10000000000) (hv : v < 4294967296) (hk : k < 10000000000) : Ret Tryz.prog 150 [u32s (limbs m), .int .u32 v, .int .i64 k] (· = u32s (limbs (m * v * B ^ k))) := by
  have wa := wf_limbs m
  have va := val_limbs m
  generalize limbs m = a at *
  refine ret_of_awp tab Tryz.func150 rfl rfl (Nat.le_of_ble_eq_true rfl) (fun w0 F0 => ?_)
  repeat' (first
    | (show awpL _ _ _ _ _; first | refine goL ?_ | (refine gdLD rfl rfl (fun _ => ?_) (fun _ => ?_) <;> try (exfalso; omega)) | (refine gdLN rfl rfl (fun _ => ?_) (fun _ => ?_) <;> try (exfalso; omega)) | refine gdL rfl rfl (fun _ => ?_) (fun _ => ?_))
    | (show awp _ _ _ _; first | refine goA ?_ | (refine awp_condD rfl (fun _ => ?_) (fun _ => ?_) <;> try (exfalso; omega)) | (refine awp_condN rfl (fun _ => ?_) (fun _ => ?_) <;> try (exfalso; omega)) | refine awp_cond rfl (fun _ => ?_) (fun _ => ?_))
    | (show andThen _ _ _ _; first | refine goN ?_)
    | (show inBlock _ _ _ _; first | refine goB ?_)
    | (show awpR _ _ _ _ _ _; first | refine goR ?_ | (refine gdRD rfl rfl (fun _ => ?_) (fun _ => ?_) <;> try (exfalso; omega)) | (refine gdRN rfl rfl (fun _ => ?_) (fun _ => ?_) <;> try (exfalso; omega)) | refine gdR rfl rfl (fun _ => ?_) (fun _ => ?_))
    | (show retPost _ _ _ _ _; first | refine finF true rfl rfl sc ?_ | refine finF false rfl rfl sc ?_ | refine finC false rfl rfl sc sc ?_ | refine finN rfl rfl sc ?_ | refine finL true rfl rfl sc rfl (LeR.cons rfl leL LeR.nil) ?_ | refine finE true rfl rfl sc ?_ | refine finE false rfl rfl sc ?_))
  refine awp_loop2 (fun (l : List Nat) (c : Nat) => ([(0, .d (u32s a)), (1, .d (.int .u32 v)), (7, .own 12 0 l.length 56 1), (8, .d (.int .u64 c)), (9, .d (.int .i64 (l.length - k)))], [(12, .data 56 1 (eN .u32) 0 l)])) (fun l c => k ≤ l.length ∧ l.length ≤ a.length + k + 1 ∧ WF l ∧ c < B ∧ val l + c * B ^ l.length = B ^ k * (val (a.take (l.length - k)) * v)) (fun l c => a.length + k + 1 - l.length) (List.replicate k 0) 0 ⟨by simp, by simp; omega, wf_rep _, by decide, by simp [val_rep, val]⟩ ⟨rfl, rfl, by simp; rfl, rfl, iv (by simp), rfl⟩ ⟨rfl, trivial⟩ (fun l c hi => ?_)
  obtain ⟨h1, h1', h2, h3, h4⟩ := hi
  have g1 := wa.getD (l.length - k)
  simp only [B_val] at g1 h3
  have g2 : a.getD (l.length - k) 0 * v ≤ 4294967295 * 4294967295 := Nat.mul_le_mul (by omega) (by omega)
  repeat' (first
    | (show awpL _ _ _ _ _; first | refine goL ?_ | refine cl 128 tt rfl rfl rfl (hr := ref01_limb _ _ (l.length - k) (by omega) (by omega) wa (by omega) (by omega)) (k := ?_) | refine cl 129 tt rfl rfl rfl (hr := ref01_trim _ (by omega)) (k := ?_) | (refine gdLD rfl rfl (fun _ => ?_) (fun _ => ?_) <;> try (exfalso; omega)) | (refine gdLN rfl rfl (fun _ => ?_) (fun _ => ?_) <;> try (exfalso; omega)) | refine gdL rfl rfl (fun _ => ?_) (fun _ => ?_))
    | (show awp _ _ _ _; first | refine goA ?_ | (refine awp_condD rfl (fun _ => ?_) (fun _ => ?_) <;> try (exfalso; omega)) | (refine awp_condN rfl (fun _ => ?_) (fun _ => ?_) <;> try (exfalso; omega)) | refine awp_cond rfl (fun _ => ?_) (fun _ => ?_))
    | (show andThen _ _ _ _; first | refine goN ?_)
    | (show inBlock _ _ _ _; first | refine goB ?_)
    | (show awpR _ _ _ _ _ _; first | refine goR ?_ | refine clR 128 tt rfl rfl rfl (hr := ref01_limb _ _ (l.length - k) (by omega) (by omega) wa (by omega) (by omega)) (k := ?_) | refine clR 129 tt rfl rfl rfl (hr := ref01_trim _ (by omega)) (k := ?_) | (refine gdRD rfl rfl (fun _ => ?_) (fun _ => ?_) <;> try (exfalso; omega)) | (refine gdRN rfl rfl (fun _ => ?_) (fun _ => ?_) <;> try (exfalso; omega)) | refine gdR rfl rfl (fun _ => ?_) (fun _ => ?_))
    | (show retPost _ _ _ _ _; first | refine finF true rfl rfl sc ?_ | refine finF false rfl rfl sc ?_ | refine finC false rfl rfl sc sc ?_ | refine finN rfl rfl sc ?_ | refine finL true rfl rfl sc rfl (LeR.cons rfl leL LeR.nil) ?_ | refine finE true rfl rfl sc ?_ | refine finE false rfl rfl sc ?_))
  · rename_i h5
    exact ⟨_, (a.getD (l.length - k) 0 * v + c) / 4294967296, ⟨by simp; omega, by simp; omega, by
      have := times_step (a := a) (i := l.length - k) (by' := k) wa h2 h3 hv (by omega) h4 rfl rfl rfl
      rw [show l.length - k + 1 = (l ++ [(a.getD (l.length - k) 0 * v + c) % 4294967296]).length - k by simp; omega] at this
      rw [show (((a.getD (l.length - k) 0 : Nat) * (v : Nat) + (c : Nat) : Int) % 4294967296).toNat = (a.getD (l.length - k) 0 * v + c) % 4294967296 by omega]
      exact this⟩, by simp; omega, ⟨rfl, rfl, rfl, iv (by omega), iv (by simp; omega), rfl⟩, rfl, trivial⟩
  · rename_i h5
    rw [val_take_all a (by omega)] at h4
    have g3 := val_lt wa
    have g9 : c = 0 := by
      refine Nat.le_zero.1 (Nat.le_of_not_lt fun hc => ?_)
      have h6 := Nat.mul_le_mul_right (B ^ l.length) (show 1 ≤ c from hc)
      have h7 : val a * v < B ^ a.length * B := Nat.mul_lt_mul_of_lt_of_le g3 (by rw [B_val]; omega) (by decide)
      have h8 := Nat.mul_lt_mul_of_pos_left h7 (Nat.pow_pos (n := k) (show 0 < B by decide))
      rw [← Nat.pow_succ, ← Nat.pow_add, show k + a.length.succ = l.length by omega] at h8
      omega
    subst g9
    rw [trimL_limbs h2, ← va, show val l = val a * v * B ^ k by rw [Nat.mul_comm _ (B ^ k)]; omega]

theorem mul_len {m n k l : Nat} (h : ln m ≤ k) (h2 : ln n ≤ l) : ln (m * n) ≤ k + l := Nat.le_trans (ln_mul m n) (by omega)

theorem ref01_TakeN (n : Nat) (h : (limbs n).length < 100000000000) : Ret Tryz.prog 122 [u32s (limbs n)] (· = u32s (limbs n)) := by
  have := ref01_Take (limbs n) (by omega)
  rw [takeL_of] at this
  exact this
theorem ref01_TakeV (l : List Nat) (wl : WF l) (h : l.length < 100000000000) : Ret Tryz.prog 122 [u32s l] (· = u32s (limbs (nv l))) := by
  have := ref01_Take l (by omega)
  rw [takeL_limbs wl] at this
  exact this
theorem ref01_AddN (m n : Nat) (hm : (limbs m).length < 100000000000) (hn : (limbs n).length < 100000000000) : Ret Tryz.prog 87 [u32s (limbs m), u32s (limbs n)] (· = u32s (limbs (m + n))) := by
  have := ref01_Add (limbs m) (limbs n) hm hn (wf_limbs m) (wf_limbs n)
  rw [nv_limbs, nv_limbs] at this
  exact this
theorem ref01_SubN (m n : Nat) (hm : (limbs m).length < 100000000000) (hn : (limbs n).length < 100000000000) : Ret Tryz.prog 125 [u32s (limbs m), u32s (limbs n)] (· = .tup [u32s (limbs (m - n)), .bool (decide (n ≤ m))]) := by
  have := ref01_Sub (limbs m) (limbs n) hm hn (wf_limbs m) (wf_limbs n)
  rw [nv_limbs, nv_limbs] at this
  exact this

theorem ref01_Mul (a b : List Nat) (hla : a.length < 1000000000) (hlb : b.length < 1000000000) (wa : WF a) (wb : WF b) : Ret Tryz.prog 127 [u32s a, u32s b] (· = u32s (limbs (nv a * nv b))) := by
  have la := length_limbs_nv wa
  have lb := length_limbs_nv wb
  have ta := ref01_TakeV a wa (by omega)
  have tb := ref01_TakeV b wb (by omega)
  generalize nv a = m at *
  generalize nv b = n at *
  have wb' := wf_limbs n
  have vb := val_limbs n
  generalize limbs n = b' at *
  refine ret_of_awp tab Tryz.func127 rfl rfl (Nat.le_of_ble_eq_true rfl) (fun w0 F0 => ?_)
  repeat' (first
    | (show awpL _ _ _ _ _; first | refine goL ?_ | refine cl 122 tt rfl rfl rfl (hr := ta) (k := ?_) | refine cl 122 tt rfl rfl rfl (hr := tb) (k := ?_) | (refine gdLD rfl rfl (fun _ => ?_) (fun _ => ?_) <;> try (exfalso; omega)) | (refine gdLN rfl rfl (fun _ => ?_) (fun _ => ?_) <;> try (exfalso; omega)) | refine gdL rfl rfl (fun _ => ?_) (fun _ => ?_))
    | (show awp _ _ _ _; first | refine goA ?_ | (refine awp_condD rfl (fun _ => ?_) (fun _ => ?_) <;> try (exfalso; omega)) | (refine awp_condN rfl (fun _ => ?_) (fun _ => ?_) <;> try (exfalso; omega)) | refine awp_cond rfl (fun _ => ?_) (fun _ => ?_))
    | (show andThen _ _ _ _; first | refine goN ?_)
    | (show inBlock _ _ _ _; first | refine goB ?_)
    | (show awpR _ _ _ _ _ _; first | refine goR ?_ | refine clR 122 tt rfl rfl rfl (hr := ta) (k := ?_) | refine clR 122 tt rfl rfl rfl (hr := tb) (k := ?_) | (refine gdRD rfl rfl (fun _ => ?_) (fun _ => ?_) <;> try (exfalso; omega)) | (refine gdRN rfl rfl (fun _ => ?_) (fun _ => ?_) <;> try (exfalso; omega)) | refine gdR rfl rfl (fun _ => ?_) (fun _ => ?_))
    | (show retPost _ _ _ _ _; first | refine finF true rfl rfl sc ?_ | refine finF false rfl rfl sc ?_ | refine finC false rfl rfl sc sc ?_ | refine finN rfl rfl sc ?_ | refine finL true rfl rfl sc rfl (LeR.cons rfl leL LeR.nil) ?_ | refine finE true rfl rfl sc ?_ | refine finE false rfl rfl sc ?_))
  refine awp_nils 5 1 (eN .u32) 0 rfl ?_
  refine awp_loop1 (fun (i : Nat) => ([(0, .d (u32s (limbs m))), (1, .d (u32s b')), (5, .d (u32s (limbs (m * val (b'.take i))))), (6, .d (.int .i64 i))], [])) (fun i => i ≤ b'.length) (fun i => b'.length - i) 0 (by simp) ⟨rfl, rfl, by simp [val, limbs_zero]; rfl, rfl, rfl⟩ trivial (fun i hi => ?_)
  have g1 := wb'.getD i
  simp only [B_val] at g1
  have g2 : ln (val (b'.take i)) ≤ b'.length := by
    refine ln_le (Nat.lt_of_lt_of_le (val_lt (wb'.take i)) (Nat.pow_le_pow_right (by decide) ?_))
    simp; omega
  have g3 := mul_len (m := m) (Nat.le_refl _) g2
  have g4 := mul_len (mul_len (m := m) (Nat.le_refl _) (ln_small (by rw [B_val]; exact g1))) (ln_le (n := B ^ i) (k := i + 1) (by rw [Nat.pow_succ]; have := Nat.pow_pos (n := i) (show 0 < B by decide); rw [B_val] at *; omega))
  simp only [ln] at *
  repeat' (first
    | (show awpL _ _ _ _ _; first | refine goL ?_ | refine cl 150 tt rfl rfl rfl (hr := ref01_times _ _ _ (by omega) (by omega) (by omega)) (k := ?_) | refine cl 87 tt rfl rfl rfl (hr := ref01_AddN _ _ (by omega) (by omega)) (k := ?_) | (refine gdLD rfl rfl (fun _ => ?_) (fun _ => ?_) <;> try (exfalso; omega)) | (refine gdLN rfl rfl (fun _ => ?_) (fun _ => ?_) <;> try (exfalso; omega)) | refine gdL rfl rfl (fun _ => ?_) (fun _ => ?_))
    | (show awp _ _ _ _; first | refine goA ?_ | (refine awp_condD rfl (fun _ => ?_) (fun _ => ?_) <;> try (exfalso; omega)) | (refine awp_condN rfl (fun _ => ?_) (fun _ => ?_) <;> try (exfalso; omega)) | refine awp_cond rfl (fun _ => ?_) (fun _ => ?_))
    | (show andThen _ _ _ _; first | refine goN ?_)
    | (show inBlock _ _ _ _; first | refine goB ?_)
    | (show awpR _ _ _ _ _ _; first | refine goR ?_ | refine clR 150 tt rfl rfl rfl (hr := ref01_times _ _ _ (by omega) (by omega) (by omega)) (k := ?_) | refine clR 87 tt rfl rfl rfl (hr := ref01_AddN _ _ (by omega) (by omega)) (k := ?_) | (refine gdRD rfl rfl (fun _ => ?_) (fun _ => ?_) <;> try (exfalso; omega)) | (refine gdRN rfl rfl (fun _ => ?_) (fun _ => ?_) <;> try (exfalso; omega)) | refine gdR rfl rfl (fun _ => ?_) (fun _ => ?_))
    | (show retPost _ _ _ _ _; first | refine finF true rfl rfl sc ?_ | refine finF false rfl rfl sc ?_ | refine finC false rfl rfl sc sc ?_ | refine finN rfl rfl sc ?_ | refine finL true rfl rfl sc rfl (LeR.cons rfl leL LeR.nil) ?_ | refine finE true rfl rfl sc ?_ | refine finE false rfl rfl sc ?_))
  · refine ⟨i + 1, by omega, by omega, ⟨rfl, rfl, ?_, iv (by simp), rfl⟩, trivial⟩
    rw [val_take_succ, Nat.mul_add, Nat.mul_assoc, Nat.mul_comm (b'.getD i 0)]; rfl
  · rw [val_take_all b' (by omega), vb]
theorem ref01_MulN (m n : Nat) (hm : (limbs m).length < 1000000000) (hn : (limbs n).length < 1000000000) : Ret Tryz.prog 127 [u32s (limbs m), u32s (limbs n)] (· = u32s (limbs (m * n))) := by
  have := ref01_Mul (limbs m) (limbs n) hm hn (wf_limbs m) (wf_limbs n)
  rw [nv_limbs, nv_limbs] at this
  exact this

theorem two_limbs (v : Nat) (h : v < 18446744073709551616) : trimL [v % 4294967296, v / 4294967296] = limbs v := by
  rw [trimL_limbs]
  · congr 1; simp only [val, B_val]; omega
  · intro x hx; simp at hx; rw [B_val]; omega
theorem ref01_FromUint (v : Nat) (h : v < 18446744073709551616) : Ret Tryz.prog 88 [.int .u64 v] (· = u32s (limbs v)) := by
  have ht := ref01_trim [v % 4294967296, v / 4294967296] (by simp)
  rw [two_limbs v h] at ht
  refine ret_of_awp tab Tryz.func88 rfl rfl (Nat.le_of_ble_eq_true rfl) (fun w0 F0 => ?_)
  repeat' (first
    | (show awpL _ _ _ _ _; first | refine goL ?_ | refine cl 129 tt rfl rfl rfl (hr := ht) (k := ?_) | (refine gdLD rfl rfl (fun _ => ?_) (fun _ => ?_) <;> try (exfalso; omega)) | (refine gdLN rfl rfl (fun _ => ?_) (fun _ => ?_) <;> try (exfalso; omega)) | refine gdL rfl rfl (fun _ => ?_) (fun _ => ?_))
    | (show awp _ _ _ _; first | refine goA ?_ | (refine awp_condD rfl (fun _ => ?_) (fun _ => ?_) <;> try (exfalso; omega)) | (refine awp_condN rfl (fun _ => ?_) (fun _ => ?_) <;> try (exfalso; omega)) | refine awp_cond rfl (fun _ => ?_) (fun _ => ?_))
    | (show andThen _ _ _ _; first | refine goN ?_)
    | (show inBlock _ _ _ _; first | refine goB ?_)
    | (show awpR _ _ _ _ _ _; first | refine goR ?_ | refine clR 129 tt rfl rfl rfl (hr := ht) (k := ?_) | (refine gdRD rfl rfl (fun _ => ?_) (fun _ => ?_) <;> try (exfalso; omega)) | (refine gdRN rfl rfl (fun _ => ?_) (fun _ => ?_) <;> try (exfalso; omega)) | refine gdR rfl rfl (fun _ => ?_) (fun _ => ?_))
    | (show retPost _ _ _ _ _; first | refine finF true rfl rfl sc ?_ | refine finF false rfl rfl sc ?_ | refine finC false rfl rfl sc sc ?_ | refine finN rfl rfl sc ?_ | refine finL true rfl rfl sc rfl (LeR.cons rfl leL LeR.nil) ?_ | refine finE true rfl rfl sc ?_ | refine finE false rfl rfl sc ?_))
  rfl
theorem ref01_bit (m i : Nat) (hm : (limbs m).length < 100000000000) (hi : i < 32 * (limbs m).length) : Ret Tryz.prog 148 [u32s (limbs m), .int .i64 i] (· = .int .u32 (m / 2 ^ i % 2 : Nat)) := by
  have e0 : (((limbs m).getD (i / 32) 0 : Nat) : Int) / 2 ^ ((i : Int) % 32).toNat = (((limbs m).getD (i / 32) 0 / 2 ^ (i % 32) : Nat) : Int) := by
    rw [show ((i : Int) % 32).toNat = i % 32 by omega]; simp
  have e1 : (limbs m).getD (i / 32) 0 / 2 ^ (i % 32) < 4294967296 := Nat.lt_of_le_of_lt (Nat.div_le_self _ _) ((wf_limbs m).getD _)
  refine ret_of_awp tab Tryz.func148 rfl rfl (Nat.le_of_ble_eq_true rfl) (fun w0 F0 => ?_)
  repeat' (first
    | (show awpL _ _ _ _ _; first | refine goL ?_ | (refine gdLD rfl rfl (fun _ => ?_) (fun _ => ?_) <;> try (exfalso; omega)) | (refine gdLN rfl rfl (fun _ => ?_) (fun _ => ?_) <;> try (exfalso; omega)) | refine gdL rfl rfl (fun _ => ?_) (fun _ => ?_))
    | (show awp _ _ _ _; first | refine goA ?_ | (refine awp_condD rfl (fun _ => ?_) (fun _ => ?_) <;> try (exfalso; omega)) | (refine awp_condN rfl (fun _ => ?_) (fun _ => ?_) <;> try (exfalso; omega)) | refine awp_cond rfl (fun _ => ?_) (fun _ => ?_))
    | (show andThen _ _ _ _; first | refine goN ?_)
    | (show inBlock _ _ _ _; first | refine goB ?_)
    | (show awpR _ _ _ _ _ _; first | refine goR ?_ | (refine gdRD rfl rfl (fun _ => ?_) (fun _ => ?_) <;> try (exfalso; omega)) | (refine gdRN rfl rfl (fun _ => ?_) (fun _ => ?_) <;> try (exfalso; omega)) | refine gdR rfl rfl (fun _ => ?_) (fun _ => ?_))
    | (show retPost _ _ _ _ _; first | refine finF true rfl rfl sc ?_ | refine finF false rfl rfl sc ?_ | refine finC false rfl rfl sc sc ?_ | refine finN rfl rfl sc ?_ | refine finL true rfl rfl sc rfl (LeR.cons rfl leL LeR.nil) ?_ | refine finE true rfl rfl sc ?_ | refine finE false rfl rfl sc ?_))
  rw [e0]
  have e2 := bit_of_limb m i
  generalize (limbs m).getD (i / 32) 0 / 2 ^ (i % 32) = q at *
  repeat' (first
    | (show awpL _ _ _ _ _; first | refine goL ?_ | (refine gdLD rfl rfl (fun _ => ?_) (fun _ => ?_) <;> try (exfalso; omega)) | (refine gdLN rfl rfl (fun _ => ?_) (fun _ => ?_) <;> try (exfalso; omega)) | refine gdL rfl rfl (fun _ => ?_) (fun _ => ?_))
    | (show awp _ _ _ _; first | refine goA ?_ | (refine awp_condD rfl (fun _ => ?_) (fun _ => ?_) <;> try (exfalso; omega)) | (refine awp_condN rfl (fun _ => ?_) (fun _ => ?_) <;> try (exfalso; omega)) | refine awp_cond rfl (fun _ => ?_) (fun _ => ?_))
    | (show andThen _ _ _ _; first | refine goN ?_)
    | (show inBlock _ _ _ _; first | refine goB ?_)
    | (show awpR _ _ _ _ _ _; first | refine goR ?_ | (refine gdRD rfl rfl (fun _ => ?_) (fun _ => ?_) <;> try (exfalso; omega)) | (refine gdRN rfl rfl (fun _ => ?_) (fun _ => ?_) <;> try (exfalso; omega)) | refine gdR rfl rfl (fun _ => ?_) (fun _ => ?_))
    | (show retPost _ _ _ _ _; first | refine finF true rfl rfl sc ?_ | refine finF false rfl rfl sc ?_ | refine finC false rfl rfl sc sc ?_ | refine finN rfl rfl sc ?_ | refine finL true rfl rfl sc rfl (LeR.cons rfl leL LeR.nil) ?_ | refine finE true rfl rfl sc ?_ | refine finE false rfl rfl sc ?_))
  rw [Int.toNat_natCast, show (1 : Int).toNat = 2 ^ 1 - 1 from rfl, Nat.and_two_pow_sub_one_eq_mod, ← e2]
theorem ref01_double (m o : Nat) (hm : (limbs m).length < 1000000000) (ho : o ≤ 1) : Ret Tryz.prog 147 [u32s (limbs m), .int .u32 o] (· = u32s (limbs (2 * m + o))) := by
  have h1 : (limbs (m * 2 * B ^ 0)).length ≤ (limbs m).length + 1 := by
    have := ln_mul m 2
    have := ln_small (n := 2) (by decide)
    simp only [ln] at *
    simp only [Nat.pow_zero, Nat.mul_one]
    omega
  have a1 := ref01_AddN (m * 2 * B ^ 0) 1 (by omega) (by have := ln_one; simp only [ln] at this; omega)
  rw [show limbs 1 = [1] from limbs_small (by decide) (by decide)] at a1
  refine ret_of_awp tab Tryz.func147 rfl rfl (Nat.le_of_ble_eq_true rfl) (fun w0 F0 => ?_)
  repeat' (first
    | (show awpL _ _ _ _ _; first | refine goL ?_ | refine cl 150 tt rfl rfl rfl (hr := ref01_times _ 2 0 (by omega) (by omega) (by omega)) (k := ?_) | refine cl 87 tt rfl rfl rfl (hr := a1) (k := ?_) | (refine gdLD rfl rfl (fun _ => ?_) (fun _ => ?_) <;> try (exfalso; omega)) | (refine gdLN rfl rfl (fun _ => ?_) (fun _ => ?_) <;> try (exfalso; omega)) | refine gdL rfl rfl (fun _ => ?_) (fun _ => ?_))
    | (show awp _ _ _ _; first | refine goA ?_ | (refine awp_condD rfl (fun _ => ?_) (fun _ => ?_) <;> try (exfalso; omega)) | (refine awp_condN rfl (fun _ => ?_) (fun _ => ?_) <;> try (exfalso; omega)) | refine awp_cond rfl (fun _ => ?_) (fun _ => ?_))
    | (show andThen _ _ _ _; first | refine goN ?_)
    | (show inBlock _ _ _ _; first | refine goB ?_)
    | (show awpR _ _ _ _ _ _; first | refine goR ?_ | refine clR 150 tt rfl rfl rfl (hr := ref01_times _ 2 0 (by omega) (by omega) (by omega)) (k := ?_) | refine clR 87 tt rfl rfl rfl (hr := a1) (k := ?_) | (refine gdRD rfl rfl (fun _ => ?_) (fun _ => ?_) <;> try (exfalso; omega)) | (refine gdRN rfl rfl (fun _ => ?_) (fun _ => ?_) <;> try (exfalso; omega)) | refine gdR rfl rfl (fun _ => ?_) (fun _ => ?_))
    | (show retPost _ _ _ _ _; first | refine finF true rfl rfl sc ?_ | refine finF false rfl rfl sc ?_ | refine finC false rfl rfl sc sc ?_ | refine finN rfl rfl sc ?_ | refine finL true rfl rfl sc rfl (LeR.cons rfl leL LeR.nil) ?_ | refine finE true rfl rfl sc ?_ | refine finE false rfl rfl sc ?_))
  · rw [Nat.pow_zero, Nat.mul_one, Nat.mul_comm m, show o = 1 by omega]
  · rw [Nat.pow_zero, Nat.mul_one, Nat.mul_comm m, show o = 0 by omega, Nat.add_zero]
end Go.Proofs.YtoppaphffnojdaaGreat

set_option linter.unusedVariables false
set_option linter.unusedSimpArgs false
namespace Go.Proofs.YtoppaphffnojdaaGreat
open Go.Vw
attribute [local irreducible] awp awpL awpR

theorem len_bound {a b : Nat} (h : a ≤ b) {k : Nat} (hb : (limbs b).length < k) : (limbs a).length < k := Nat.lt_of_le_of_lt (limbs_len_mono h) hb
theorem len_double {a b k : Nat} (h : a ≤ 2 * b + 1) (hb : (limbs b).length < k) : (limbs a).length < k + 1 := by
  have h1 := ln_add b (b + 1)
  have h2 := ln_add1 (m := b) (n := b) (Nat.le_refl _) (Nat.le_refl _)
  have h3 := ln_add1 (m := b) (n := b + 1) (k := (limbs b).length + 1)
  have h4 : a < B ^ (ln b + 1) := by
    have := lt_ln b
    rw [Nat.pow_succ]
    have : B ^ ln b * 2 ≤ B ^ ln b * B := Nat.mul_le_mul_left _ (by decide)
    omega
  have := ln_le h4
  simp only [ln] at this
  omega

theorem lv {a b : Nat} (h : a = b) : V.d (u32s (limbs a)) = V.d (u32s (limbs b)) := by rw [h]
theorem ref01_bitI (m j : Nat) (i : Int) (h : i = j) (hm : (limbs m).length < 100000000000) (hi : j < 32 * (limbs m).length) : Ret Tryz.prog 148 [u32s (limbs m), .int .i64 i] (· = .int .u32 (m / 2 ^ j % 2 : Nat)) := by
  subst h; exact ref01_bit m j hm hi
/-- One step of the long division. -/
theorem div_step {x y n o : Nat} (h0 : n ≠ 0) (h : y = 2 * x + o) (ho : o ≤ 1) : (n ≤ 2 * (x % n) + o → 2 * (x % n) + o - n = y % n ∧ 2 * (x / n) + 1 = y / n) ∧ (¬ n ≤ 2 * (x % n) + o → 2 * (x % n) + o = y % n ∧ 2 * (x / n) + 0 = y / n) := by
  have hp := Nat.pos_of_ne_zero h0
  have hx := Nat.div_add_mod x n
  have hr := Nat.mod_lt x hp
  have e : y = n * (2 * (x / n)) + (2 * (x % n) + o) := by
    have : n * (2 * (x / n)) = 2 * (n * (x / n)) := by rw [Nat.mul_left_comm]
    omega
  constructor <;> intro hc
  · have e2 : y = (2 * (x % n) + o - n) + n * (2 * (x / n) + 1) := by rw [Nat.mul_add]; omega
    have l1 : 2 * (x % n) + o - n < n := by omega
    have h1 : y % n = 2 * (x % n) + o - n := by rw [e2, Nat.add_mul_mod_self_left]; exact Nat.mod_eq_of_lt l1
    have h2 : y / n = 2 * (x / n) + 1 := by rw [e2, Nat.add_mul_div_left _ _ hp, Nat.div_eq_of_lt l1, Nat.zero_add]
    exact ⟨h1.symm, h2.symm⟩
  · have e2 : y = (2 * (x % n) + o) + n * (2 * (x / n)) := by omega
    have l1 : 2 * (x % n) + o < n := by omega
    have h1 : y % n = 2 * (x % n) + o := by rw [e2, Nat.add_mul_mod_self_left]; exact Nat.mod_eq_of_lt l1
    have h2 : y / n = 2 * (x / n) := by rw [e2, Nat.add_mul_div_left _ _ hp, Nat.div_eq_of_lt l1, Nat.zero_add]
    exact ⟨h1.symm, h2.symm⟩
theorem ref01_DivN (m n : Nat) (hm : (limbs m).length < 100000000) (hn : (limbs n).length < 100000000) (h0 : n ≠ 0) : Ret Tryz.prog 124 [u32s (limbs m), u32s (limbs n)] (· = .tup [u32s (limbs (m / n)), u32s (limbs (m % n)), .bool true]) := by
  have hl : 0 < (limbs n).length := List.length_pos_iff.2 (mt limbs_eq_nil.1 h0)
  have hz := div_bits_zero m
  simp only [ln] at hz
  refine ret_of_awp tab Tryz.func124 rfl rfl (Nat.le_of_ble_eq_true rfl) (fun w0 F0 => ?_)
  repeat' (first
    | (show awpL _ _ _ _ _; first | refine goL ?_ | refine cl 122 tt rfl rfl rfl (hr := ref01_TakeN _ (by omega)) (k := ?_) | (refine gdLD rfl rfl (fun _ => ?_) (fun _ => ?_) <;> try (exfalso; omega)) | (refine gdLN rfl rfl (fun _ => ?_) (fun _ => ?_) <;> try (exfalso; omega)) | refine gdL rfl rfl (fun _ => ?_) (fun _ => ?_))
    | (show awp _ _ _ _; first | refine goA ?_ | (refine awp_condD rfl (fun _ => ?_) (fun _ => ?_) <;> try (exfalso; omega)) | (refine awp_condN rfl (fun _ => ?_) (fun _ => ?_) <;> try (exfalso; omega)) | refine awp_cond rfl (fun _ => ?_) (fun _ => ?_))
    | (show andThen _ _ _ _; first | refine goN ?_)
    | (show inBlock _ _ _ _; first | refine goB ?_)
    | (show awpR _ _ _ _ _ _; first | refine goR ?_ | refine clR 122 tt rfl rfl rfl (hr := ref01_TakeN _ (by omega)) (k := ?_) | (refine gdRD rfl rfl (fun _ => ?_) (fun _ => ?_) <;> try (exfalso; omega)) | (refine gdRN rfl rfl (fun _ => ?_) (fun _ => ?_) <;> try (exfalso; omega)) | refine gdR rfl rfl (fun _ => ?_) (fun _ => ?_))
    | (show retPost _ _ _ _ _; first | refine finF true rfl rfl sc ?_ | refine finF false rfl rfl sc ?_ | refine finC false rfl rfl sc sc ?_ | refine finN rfl rfl sc ?_ | refine finL true rfl rfl sc rfl (LeR.cons rfl leL LeR.nil) ?_ | refine finE true rfl rfl sc ?_ | refine finE false rfl rfl sc ?_))
  refine awp_nils 7 1 (eN .u32) 0 rfl ?_
  refine awp_nils 8 1 (eN .u32) 0 rfl ?_
  refine awp_loop1 (fun (k : Nat) => ([(0, .d (u32s (limbs m))), (1, .d (u32s (limbs n))), (7, .d (u32s (limbs (m / 2 ^ k / n)))), (8, .d (u32s (limbs (m / 2 ^ k % n)))), (9, .d (.int .i64 ((k : Int) - 1)))], [])) (fun k => k ≤ 32 * (limbs m).length) (fun k => k) (32 * (limbs m).length) (Nat.le_refl _) ⟨rfl, rfl, by rw [hz, Nat.zero_div, limbs_zero]; rfl, by rw [hz, Nat.zero_mod, limbs_zero]; rfl, iv (by simp), rfl⟩ trivial (fun k hi => ?_)
  have e1 : ((k : Int) - 1) = ((k - 1 : Nat) : Int) ∨ k = 0 := by omega
  have e2 := div_pow_step m k
  have hq : m / 2 ^ k ≤ m := Nat.div_le_self _ _
  have hq' : m / 2 ^ k / n ≤ m := Nat.le_trans (Nat.div_le_self _ _) hq
  have hr := Nat.mod_lt (m / 2 ^ k) (Nat.pos_of_ne_zero h0)
  have b1 := len_bound hq' hm
  have b2 := len_bound (Nat.le_of_lt hr) hn
  have b3 := len_double (a := 2 * (m / 2 ^ k % n) + m / 2 ^ (k - 1) % 2) (b := m / 2 ^ k % n) (by omega) b2
  have e3 : 0 < k → _ := fun hk => div_step (x := m / 2 ^ k) (y := m / 2 ^ (k - 1)) (o := m / 2 ^ (k - 1) % 2) h0 (e2 hk) (by omega)
  repeat' (first
    | (show awpL _ _ _ _ _; first | refine goL ?_ | refine cl 148 tt rfl rfl rfl (hr := ref01_bitI _ (k - 1) _ (by omega) (by omega) (by omega)) (k := ?_) | refine cl 147 tt rfl rfl rfl (hr := ref01_double _ _ (by omega) (by omega)) (k := ?_) | refine cl 147 tt rfl rfl rfl (hr := ref01_double _ 1 (by omega) (by omega)) (k := ?_) | refine cl 147 tt rfl rfl rfl (hr := ref01_double _ 0 (by omega) (by omega)) (k := ?_) | refine cl 125 tt rfl rfl rfl (hr := ref01_SubN _ _ (by omega) (by omega)) (k := ?_) | (refine gdLD rfl rfl (fun _ => ?_) (fun _ => ?_) <;> try (exfalso; omega)) | (refine gdLN rfl rfl (fun _ => ?_) (fun _ => ?_) <;> try (exfalso; omega)) | refine gdL rfl rfl (fun _ => ?_) (fun _ => ?_))
    | (show awp _ _ _ _; first | refine goA ?_ | (refine awp_condD rfl (fun _ => ?_) (fun _ => ?_) <;> try (exfalso; omega)) | (refine awp_condN rfl (fun _ => ?_) (fun _ => ?_) <;> try (exfalso; omega)) | refine awp_cond rfl (fun _ => ?_) (fun _ => ?_))
    | (show andThen _ _ _ _; first | refine goN ?_)
    | (show inBlock _ _ _ _; first | refine goB ?_)
    | (show awpR _ _ _ _ _ _; first | refine goR ?_ | refine clR 148 tt rfl rfl rfl (hr := ref01_bitI _ (k - 1) _ (by omega) (by omega) (by omega)) (k := ?_) | refine clR 147 tt rfl rfl rfl (hr := ref01_double _ _ (by omega) (by omega)) (k := ?_) | refine clR 147 tt rfl rfl rfl (hr := ref01_double _ 1 (by omega) (by omega)) (k := ?_) | refine clR 147 tt rfl rfl rfl (hr := ref01_double _ 0 (by omega) (by omega)) (k := ?_) | refine clR 125 tt rfl rfl rfl (hr := ref01_SubN _ _ (by omega) (by omega)) (k := ?_) | (refine gdRD rfl rfl (fun _ => ?_) (fun _ => ?_) <;> try (exfalso; omega)) | (refine gdRN rfl rfl (fun _ => ?_) (fun _ => ?_) <;> try (exfalso; omega)) | refine gdR rfl rfl (fun _ => ?_) (fun _ => ?_))
    | (show retPost _ _ _ _ _; first | refine finF true rfl rfl sc ?_ | refine finF false rfl rfl sc ?_ | refine finC false rfl rfl sc sc ?_ | refine finN rfl rfl sc ?_ | refine finL true rfl rfl sc rfl (LeR.cons rfl leL LeR.nil) ?_ | refine finT true rfl rfl sc ?_ | refine finT false rfl rfl sc ?_ | refine finE true rfl rfl sc ?_ | refine finE false rfl rfl sc ?_))
  · rename_i hk hc
    obtain ⟨g1, g2⟩ := (e3 (by omega)).1 hc
    exact ⟨k - 1, by omega, by omega, ⟨rfl, rfl, lv g2, lv g1, iv (by omega), rfl⟩, trivial⟩
  · rename_i hk hc
    obtain ⟨g1, g2⟩ := (e3 (by omega)).2 hc
    exact ⟨k - 1, by omega, by omega, ⟨rfl, rfl, lv g2, lv g1, iv (by omega), rfl⟩, trivial⟩
  · have : k = 0 := by omega
    subst this
    rw [Nat.pow_zero, Nat.div_one]; exact leT

theorem ref01_Div0 (m : Nat) (hm : (limbs m).length < 100000000) : Ret Tryz.prog 124 [u32s (limbs m), u32s (limbs 0)] (· = .tup [u32s (limbs 0), u32s (limbs 0), .bool false]) := by
  have e : (limbs 0).length = 0 := by rw [limbs_zero]; rfl
  refine ret_of_awp tab Tryz.func124 rfl rfl (Nat.le_of_ble_eq_true rfl) (fun w0 F0 => ?_)
  repeat' (first
    | (show awpL _ _ _ _ _; first | refine goL ?_ | refine cl 122 tt rfl rfl rfl (hr := ref01_TakeN _ (by omega)) (k := ?_) | (refine gdLD rfl rfl (fun _ => ?_) (fun _ => ?_) <;> try (exfalso; omega)) | (refine gdLN rfl rfl (fun _ => ?_) (fun _ => ?_) <;> try (exfalso; omega)) | refine gdL rfl rfl (fun _ => ?_) (fun _ => ?_))
    | (show awp _ _ _ _; first | refine goA ?_ | (refine awp_condD rfl (fun _ => ?_) (fun _ => ?_) <;> try (exfalso; omega)) | (refine awp_condN rfl (fun _ => ?_) (fun _ => ?_) <;> try (exfalso; omega)) | refine awp_cond rfl (fun _ => ?_) (fun _ => ?_))
    | (show andThen _ _ _ _; first | refine goN ?_)
    | (show inBlock _ _ _ _; first | refine goB ?_)
    | (show awpR _ _ _ _ _ _; first | refine goR ?_ | refine clR 122 tt rfl rfl rfl (hr := ref01_TakeN _ (by omega)) (k := ?_) | (refine gdRD rfl rfl (fun _ => ?_) (fun _ => ?_) <;> try (exfalso; omega)) | (refine gdRN rfl rfl (fun _ => ?_) (fun _ => ?_) <;> try (exfalso; omega)) | refine gdR rfl rfl (fun _ => ?_) (fun _ => ?_))
    | (show retPost _ _ _ _ _; first | refine finF true rfl rfl sc ?_ | refine finF false rfl rfl sc ?_ | refine finC false rfl rfl sc sc ?_ | refine finN rfl rfl sc ?_ | refine finL true rfl rfl sc rfl (LeR.cons rfl leL LeR.nil) ?_ | refine finT true rfl rfl sc ?_ | refine finT false rfl rfl sc ?_ | refine finE true rfl rfl sc ?_ | refine finE false rfl rfl sc ?_))
  rw [limbs_zero]; exact leT

theorem ref01_Gcd (a b : List Nat) (hla : a.length < 10000000) (hlb : b.length < 10000000) (wa : WF a) (wb : WF b) : Ret Tryz.prog 131 [u32s a, u32s b] (· = u32s (limbs (Nat.gcd (nv a) (nv b)))) := by
  have la := length_limbs_nv wa
  have lb := length_limbs_nv wb
  have ta := ref01_TakeV a wa (by omega)
  have tb := ref01_TakeV b wb (by omega)
  generalize nv a = m at *
  generalize nv b = n at *
  refine ret_of_awp tab Tryz.func131 rfl rfl (Nat.le_of_ble_eq_true rfl) (fun w0 F0 => ?_)
  repeat' (first
    | (show awpL _ _ _ _ _; first | refine goL ?_ | refine cl 122 tt rfl rfl rfl (hr := ta) (k := ?_) | refine cl 122 tt rfl rfl rfl (hr := tb) (k := ?_) | (refine gdLD rfl rfl (fun _ => ?_) (fun _ => ?_) <;> try (exfalso; omega)) | (refine gdLN rfl rfl (fun _ => ?_) (fun _ => ?_) <;> try (exfalso; omega)) | refine gdL rfl rfl (fun _ => ?_) (fun _ => ?_))
    | (show awp _ _ _ _; first | refine goA ?_ | (refine awp_condD rfl (fun _ => ?_) (fun _ => ?_) <;> try (exfalso; omega)) | (refine awp_condN rfl (fun _ => ?_) (fun _ => ?_) <;> try (exfalso; omega)) | refine awp_cond rfl (fun _ => ?_) (fun _ => ?_))
    | (show andThen _ _ _ _; first | refine goN ?_)
    | (show inBlock _ _ _ _; first | refine goB ?_)
    | (show awpR _ _ _ _ _ _; first | refine goR ?_ | refine clR 122 tt rfl rfl rfl (hr := ta) (k := ?_) | refine clR 122 tt rfl rfl rfl (hr := tb) (k := ?_) | (refine gdRD rfl rfl (fun _ => ?_) (fun _ => ?_) <;> try (exfalso; omega)) | (refine gdRN rfl rfl (fun _ => ?_) (fun _ => ?_) <;> try (exfalso; omega)) | refine gdR rfl rfl (fun _ => ?_) (fun _ => ?_))
    | (show retPost _ _ _ _ _; first | refine finF true rfl rfl sc ?_ | refine finF false rfl rfl sc ?_ | refine finC false rfl rfl sc sc ?_ | refine finN rfl rfl sc ?_ | refine finL true rfl rfl sc rfl (LeR.cons rfl leL LeR.nil) ?_ | refine finE true rfl rfl sc ?_ | refine finE false rfl rfl sc ?_))
  refine awp_loop2 (fun (x y : Nat) => ([(0, .d (u32s (limbs x))), (1, .d (u32s (limbs y)))], [])) (fun x y => (limbs x).length < 100000000 ∧ (limbs y).length < 100000000 ∧ Nat.gcd x y = Nat.gcd m n) (fun x y => y) m n ⟨by omega, by omega, rfl⟩ ⟨rfl, rfl, rfl⟩ trivial (fun x y hi => ?_)
  obtain ⟨h1, h2, h3⟩ := hi
  by_cases h0 : y = 0
  · subst h0
    have e : (limbs 0).length = 0 := by rw [limbs_zero]; rfl
    repeat' (first
      | (show awpL _ _ _ _ _; first | refine goL ?_ | (refine gdLD rfl rfl (fun _ => ?_) (fun _ => ?_) <;> try (exfalso; omega)) | (refine gdLN rfl rfl (fun _ => ?_) (fun _ => ?_) <;> try (exfalso; omega)) | refine gdL rfl rfl (fun _ => ?_) (fun _ => ?_))
      | (show awp _ _ _ _; first | refine goA ?_ | (refine awp_condD rfl (fun _ => ?_) (fun _ => ?_) <;> try (exfalso; omega)) | (refine awp_condN rfl (fun _ => ?_) (fun _ => ?_) <;> try (exfalso; omega)) | refine awp_cond rfl (fun _ => ?_) (fun _ => ?_))
      | (show andThen _ _ _ _; first | refine goN ?_)
      | (show inBlock _ _ _ _; first | refine goB ?_)
      | (show awpR _ _ _ _ _ _; first | refine goR ?_ | (refine gdRD rfl rfl (fun _ => ?_) (fun _ => ?_) <;> try (exfalso; omega)) | (refine gdRN rfl rfl (fun _ => ?_) (fun _ => ?_) <;> try (exfalso; omega)) | refine gdR rfl rfl (fun _ => ?_) (fun _ => ?_))
      | (show retPost _ _ _ _ _; first | refine finF true rfl rfl sc ?_ | refine finF false rfl rfl sc ?_ | refine finC false rfl rfl sc sc ?_ | refine finN rfl rfl sc ?_ | refine finL true rfl rfl sc rfl (LeR.cons rfl leL LeR.nil) ?_ | refine finE true rfl rfl sc ?_ | refine finE false rfl rfl sc ?_))
    rw [← h3, Nat.gcd_zero_right]
  · have e : 0 < (limbs y).length := List.length_pos_iff.2 (mt limbs_eq_nil.1 h0)
    repeat' (first
      | (show awpL _ _ _ _ _; first | refine goL ?_ | refine cl 124 tt rfl rfl rfl (hr := ref01_DivN _ _ (by omega) (by omega) h0) (k := ?_) | (refine gdLD rfl rfl (fun _ => ?_) (fun _ => ?_) <;> try (exfalso; omega)) | (refine gdLN rfl rfl (fun _ => ?_) (fun _ => ?_) <;> try (exfalso; omega)) | refine gdL rfl rfl (fun _ => ?_) (fun _ => ?_))
      | (show awp _ _ _ _; first | refine goA ?_ | (refine awp_condD rfl (fun _ => ?_) (fun _ => ?_) <;> try (exfalso; omega)) | (refine awp_condN rfl (fun _ => ?_) (fun _ => ?_) <;> try (exfalso; omega)) | refine awp_cond rfl (fun _ => ?_) (fun _ => ?_))
      | (show andThen _ _ _ _; first | refine goN ?_)
      | (show inBlock _ _ _ _; first | refine goB ?_)
      | (show awpR _ _ _ _ _ _; first | refine goR ?_ | refine clR 124 tt rfl rfl rfl (hr := ref01_DivN _ _ (by omega) (by omega) h0) (k := ?_) | (refine gdRD rfl rfl (fun _ => ?_) (fun _ => ?_) <;> try (exfalso; omega)) | (refine gdRN rfl rfl (fun _ => ?_) (fun _ => ?_) <;> try (exfalso; omega)) | refine gdR rfl rfl (fun _ => ?_) (fun _ => ?_))
      | (show retPost _ _ _ _ _; first | refine finF true rfl rfl sc ?_ | refine finF false rfl rfl sc ?_ | refine finC false rfl rfl sc sc ?_ | refine finN rfl rfl sc ?_ | refine finL true rfl rfl sc rfl (LeR.cons rfl leL LeR.nil) ?_ | refine finE true rfl rfl sc ?_ | refine finE false rfl rfl sc ?_))
    have hr := Nat.mod_lt x (Nat.pos_of_ne_zero h0)
    exact ⟨y, x % y, ⟨h2, len_bound (Nat.le_of_lt hr) h2, by rw [← h3, Nat.gcd_comm y, ← Nat.gcd_rec, Nat.gcd_comm]⟩, hr, ⟨rfl, rfl, rfl⟩, trivial⟩
theorem ref01_GcdN (m n : Nat) (hm : (limbs m).length < 10000000) (hn : (limbs n).length < 10000000) : Ret Tryz.prog 131 [u32s (limbs m), u32s (limbs n)] (· = u32s (limbs (Nat.gcd m n))) := by
  have := ref01_Gcd (limbs m) (limbs n) hm hn (wf_limbs m) (wf_limbs n)
  rw [nv_limbs, nv_limbs] at this
  exact this

theorem take_succ_eq {a b : List Nat} {i : Nat} (h : a.take i = b.take i) (h1 : i < a.length) (h2 : i < b.length) (e : a.getD i 0 = b.getD i 0) : a.take (i + 1) = b.take (i + 1) := by
  rw [List.take_add_one, List.take_add_one, h]
  simp [List.getD, h1, h2] at e
  simp [h1, h2, e]
end Go.Proofs.YtoppaphffnojdaaGreat

/-
  Integers and rational numbers as the program holds them. Conditions: none.
-/
namespace Go.Vw

def intC (neg : Bool) (mag : List Nat) : D := .agg [.bool neg, u32s mag]
/-- An integer in the program's form. -/
def zD (z : Int) : D := intC (decide (z < 0)) (limbs z.natAbs)
def validI (neg : Bool) (mag : List Nat) : Bool := valid mag && !(neg && decide (mag.length = 0))
/-- What an integer's fields stand for; 0 if they are not valid. -/
def iv' (neg : Bool) (mag : List Nat) : Int := if validI neg mag then (if neg then -(val mag : Int) else val mag) else 0

theorem validI_z (z : Int) : validI (decide (z < 0)) (limbs z.natAbs) = true := by
  unfold validI
  rw [valid_limbs, Bool.true_and, Bool.not_eq_true', Bool.and_eq_false_iff]
  by_cases h : z < 0
  · right
    have h0 : z.natAbs ≠ 0 := by omega
    exact decide_eq_false (mt (fun e => limbs_eq_nil.1 (List.length_eq_zero_iff.1 e)) h0)
  · left; exact decide_eq_false h
theorem iv'_z (z : Int) : iv' (decide (z < 0)) (limbs z.natAbs) = z := by
  unfold iv'
  rw [if_pos (validI_z z), val_limbs]
  by_cases h : z < 0
  · simp [h]; omega
  · simp [h]; omega
/-- Valid fields are those of their number. -/
theorem intC_valid {neg : Bool} {mag : List Nat} (h : WF mag) (hv : validI neg mag = true) : intC neg mag = zD (iv' neg mag) := by
  unfold iv' zD
  rw [if_pos hv]
  unfold validI at hv
  rw [Bool.and_eq_true] at hv
  obtain ⟨h1, h2⟩ := hv
  have hl := limbs_val h h1
  cases neg with
  | true =>
    simp at h2
    have h0 : val mag ≠ 0 := fun e => h2 (by rw [← hl, e, limbs_zero])
    have e1 : (-(val mag : Int)).natAbs = val mag := by omega
    simp only [if_true]
    rw [e1, hl, decide_eq_true (by omega)]
  | false =>
    have e1 : ((val mag : Int)).natAbs = val mag := by omega
    simp only [Bool.false_eq_true, if_false]
    rw [e1, hl, decide_eq_false (by omega)]
theorem zD_zero : zD 0 = .agg [.bool false, u32s []] := by
  show intC _ (limbs 0) = _
  rw [limbs_zero]; rfl
theorem iv'_abs (neg : Bool) (mag : List Nat) : (iv' neg mag).natAbs = if validI neg mag then val mag else 0 := by
  unfold iv'; split
  · cases neg <;> simp
  · rfl
theorem iv'_len {neg : Bool} {mag : List Nat} (h : WF mag) : (limbs (iv' neg mag).natAbs).length ≤ mag.length := by
  rw [iv'_abs]; split
  · exact length_limbs_le (val_lt h)
  · rw [limbs_zero]; simp
/-- A sign and a size, put together. -/
theorem signed_z (neg : Bool) (n : Nat) : D.agg [.bool (neg && decide (0 < (limbs n).length)), u32s (limbs n)] = zD (if neg then -(n : Int) else n) := by
  unfold zD intC
  cases neg with
  | true =>
    simp only [if_true, Bool.true_and, Int.natAbs_neg, Int.natAbs_natCast]
    congr 3
    by_cases h : n = 0
    · subst h; simp [limbs_zero]
    · have := List.length_pos_iff.2 (mt limbs_eq_nil.1 h)
      rw [decide_eq_decide]; omega
  | false =>
    have : ¬ ((n : Int) < 0) := by omega
    simp [this]
theorem zD_cases (z : Int) : ∃ s n, zD z = .agg [.bool s, u32s (limbs n)] ∧ z = (if s then -(n : Int) else n) ∧ z.natAbs = n ∧ (s = true → n ≠ 0) := by
  refine ⟨decide (z < 0), z.natAbs, rfl, ?_, rfl, ?_⟩
  · by_cases h : z < 0
    · simp [h]; omega
    · simp [h]; omega
  · intro h; have := of_decide_eq_true h; omega
/-- An integer that is written with bounds on its length. -/
structure IntOk (neg : Bool) (mag : List Nat) (k : Nat) : Prop where
  wf : WF mag
  len : mag.length < k
theorem IntOk.z {z : Int} {k : Nat} (h : (limbs z.natAbs).length < k) : IntOk (decide (z < 0)) (limbs z.natAbs) k := ⟨wf_limbs _, h⟩
theorem IntOk.val {neg : Bool} {mag : List Nat} {k : Nat} (h : IntOk neg mag k) : (limbs (iv' neg mag).natAbs).length < k := Nat.lt_of_le_of_lt (iv'_len h.wf) h.len
end Go.Vw

set_option linter.unusedVariables false
set_option linter.unusedSimpArgs false
namespace Go.Proofs.YtoppaphffnojdaaGreat
open Go.Vw
attribute [local irreducible] awp awpL awpR

theorem ref02_Valid (neg : Bool) (mag : List Nat) (hl : mag.length < 1000000000000) : Ret Tryz.prog 121 [intC neg mag] (· = .bool (validI neg mag)) := by
  have hv := ref01_Valid mag hl
  unfold validI
  generalize valid mag = v at *
  cases v <;> cases neg
  · refine ret_of_awp tab Tryz.func121 rfl rfl (Nat.le_of_ble_eq_true rfl) (fun w0 F0 => ?_)
    repeat' (first
      | (show awpL _ _ _ _ _; first | refine goL ?_ | refine cl 146 tt rfl rfl rfl (hr := hv) (k := ?_) | (refine gdLD rfl rfl (fun _ => ?_) (fun _ => ?_) <;> try (exfalso; omega)) | (refine gdLN rfl rfl (fun _ => ?_) (fun _ => ?_) <;> try (exfalso; omega)) | refine gdL rfl rfl (fun _ => ?_) (fun _ => ?_))
      | (show awp _ _ _ _; first | refine goA ?_ | (refine awp_condD rfl (fun _ => ?_) (fun _ => ?_) <;> try (exfalso; omega)) | (refine awp_condN rfl (fun _ => ?_) (fun _ => ?_) <;> try (exfalso; omega)) | refine awp_cond rfl (fun _ => ?_) (fun _ => ?_))
      | (show andThen _ _ _ _; first | refine goN ?_)
      | (show inBlock _ _ _ _; first | refine goB ?_)
      | (show awpR _ _ _ _ _ _; first | refine goR ?_ | refine clR 146 tt rfl rfl rfl (hr := hv) (k := ?_) | (refine gdRD rfl rfl (fun _ => ?_) (fun _ => ?_) <;> try (exfalso; omega)) | (refine gdRN rfl rfl (fun _ => ?_) (fun _ => ?_) <;> try (exfalso; omega)) | refine gdR rfl rfl (fun _ => ?_) (fun _ => ?_))
      | (show retPost _ _ _ _ _; first | refine finF true rfl rfl sc ?_ | refine finF false rfl rfl sc ?_ | refine finC false rfl rfl sc sc ?_ | refine finN rfl rfl sc ?_ | refine finL true rfl rfl sc rfl (LeR.cons rfl leL LeR.nil) ?_ | refine finE true rfl rfl sc ?_ | refine finE false rfl rfl sc ?_))
    rfl
  · refine ret_of_awp tab Tryz.func121 rfl rfl (Nat.le_of_ble_eq_true rfl) (fun w0 F0 => ?_)
    repeat' (first
      | (show awpL _ _ _ _ _; first | refine goL ?_ | refine cl 146 tt rfl rfl rfl (hr := hv) (k := ?_) | (refine gdLD rfl rfl (fun _ => ?_) (fun _ => ?_) <;> try (exfalso; omega)) | (refine gdLN rfl rfl (fun _ => ?_) (fun _ => ?_) <;> try (exfalso; omega)) | refine gdL rfl rfl (fun _ => ?_) (fun _ => ?_))
      | (show awp _ _ _ _; first | refine goA ?_ | (refine awp_condD rfl (fun _ => ?_) (fun _ => ?_) <;> try (exfalso; omega)) | (refine awp_condN rfl (fun _ => ?_) (fun _ => ?_) <;> try (exfalso; omega)) | refine awp_cond rfl (fun _ => ?_) (fun _ => ?_))
      | (show andThen _ _ _ _; first | refine goN ?_)
      | (show inBlock _ _ _ _; first | refine goB ?_)
      | (show awpR _ _ _ _ _ _; first | refine goR ?_ | refine clR 146 tt rfl rfl rfl (hr := hv) (k := ?_) | (refine gdRD rfl rfl (fun _ => ?_) (fun _ => ?_) <;> try (exfalso; omega)) | (refine gdRN rfl rfl (fun _ => ?_) (fun _ => ?_) <;> try (exfalso; omega)) | refine gdR rfl rfl (fun _ => ?_) (fun _ => ?_))
      | (show retPost _ _ _ _ _; first | refine finF true rfl rfl sc ?_ | refine finF false rfl rfl sc ?_ | refine finC false rfl rfl sc sc ?_ | refine finN rfl rfl sc ?_ | refine finL true rfl rfl sc rfl (LeR.cons rfl leL LeR.nil) ?_ | refine finE true rfl rfl sc ?_ | refine finE false rfl rfl sc ?_))
    rfl
  · refine ret_of_awp tab Tryz.func121 rfl rfl (Nat.le_of_ble_eq_true rfl) (fun w0 F0 => ?_)
    repeat' (first
      | (show awpL _ _ _ _ _; first | refine goL ?_ | refine cl 146 tt rfl rfl rfl (hr := hv) (k := ?_) | (refine gdLD rfl rfl (fun _ => ?_) (fun _ => ?_) <;> try (exfalso; omega)) | (refine gdLN rfl rfl (fun _ => ?_) (fun _ => ?_) <;> try (exfalso; omega)) | refine gdL rfl rfl (fun _ => ?_) (fun _ => ?_))
      | (show awp _ _ _ _; first | refine goA ?_ | (refine awp_condD rfl (fun _ => ?_) (fun _ => ?_) <;> try (exfalso; omega)) | (refine awp_condN rfl (fun _ => ?_) (fun _ => ?_) <;> try (exfalso; omega)) | refine awp_cond rfl (fun _ => ?_) (fun _ => ?_))
      | (show andThen _ _ _ _; first | refine goN ?_)
      | (show inBlock _ _ _ _; first | refine goB ?_)
      | (show awpR _ _ _ _ _ _; first | refine goR ?_ | refine clR 146 tt rfl rfl rfl (hr := hv) (k := ?_) | (refine gdRD rfl rfl (fun _ => ?_) (fun _ => ?_) <;> try (exfalso; omega)) | (refine gdRN rfl rfl (fun _ => ?_) (fun _ => ?_) <;> try (exfalso; omega)) | refine gdR rfl rfl (fun _ => ?_) (fun _ => ?_))
      | (show retPost _ _ _ _ _; first | refine finF true rfl rfl sc ?_ | refine finF false rfl rfl sc ?_ | refine finC false rfl rfl sc sc ?_ | refine finN rfl rfl sc ?_ | refine finL true rfl rfl sc rfl (LeR.cons rfl leL LeR.nil) ?_ | refine finE true rfl rfl sc ?_ | refine finE false rfl rfl sc ?_))
    rfl
  · refine ret_of_awp tab Tryz.func121 rfl rfl (Nat.le_of_ble_eq_true rfl) (fun w0 F0 => ?_)
    repeat' (first
      | (show awpL _ _ _ _ _; first | refine goL ?_ | refine cl 146 tt rfl rfl rfl (hr := hv) (k := ?_) | (refine gdLD rfl rfl (fun _ => ?_) (fun _ => ?_) <;> try (exfalso; omega)) | (refine gdLN rfl rfl (fun _ => ?_) (fun _ => ?_) <;> try (exfalso; omega)) | refine gdL rfl rfl (fun _ => ?_) (fun _ => ?_))
      | (show awp _ _ _ _; first | refine goA ?_ | (refine awp_condD rfl (fun _ => ?_) (fun _ => ?_) <;> try (exfalso; omega)) | (refine awp_condN rfl (fun _ => ?_) (fun _ => ?_) <;> try (exfalso; omega)) | refine awp_cond rfl (fun _ => ?_) (fun _ => ?_))
      | (show andThen _ _ _ _; first | refine goN ?_)
      | (show inBlock _ _ _ _; first | refine goB ?_)
      | (show awpR _ _ _ _ _ _; first | refine goR ?_ | refine clR 146 tt rfl rfl rfl (hr := hv) (k := ?_) | (refine gdRD rfl rfl (fun _ => ?_) (fun _ => ?_) <;> try (exfalso; omega)) | (refine gdRN rfl rfl (fun _ => ?_) (fun _ => ?_) <;> try (exfalso; omega)) | refine gdR rfl rfl (fun _ => ?_) (fun _ => ?_))
      | (show retPost _ _ _ _ _; first | refine finF true rfl rfl sc ?_ | refine finF false rfl rfl sc ?_ | refine finC false rfl rfl sc sc ?_ | refine finN rfl rfl sc ?_ | refine finL true rfl rfl sc rfl (LeR.cons rfl leL LeR.nil) ?_ | refine finE true rfl rfl sc ?_ | refine finE false rfl rfl sc ?_))
    simp

theorem ref02_Take (neg : Bool) (mag : List Nat) (wm : WF mag) (hl : mag.length < 100000000000) : Ret Tryz.prog 78 [intC neg mag] (· = zD (iv' neg mag)) := by
  have hv := ref02_Valid neg mag (by omega)
  have ht := ref01_Take mag (by omega)
  cases h : validI neg mag with
  | false =>
    rw [h] at hv
    rw [show iv' neg mag = 0 from by simp [iv', h]]
    refine ret_of_awp tab Tryz.func78 rfl rfl (Nat.le_of_ble_eq_true rfl) (fun w0 F0 => ?_)
    rw [zD_zero]
    repeat' (first
      | (show awpL _ _ _ _ _; first | refine goL ?_ | refine cl 121 tt rfl rfl rfl (hr := hv) (k := ?_) | (refine gdLD rfl rfl (fun _ => ?_) (fun _ => ?_) <;> try (exfalso; omega)) | (refine gdLN rfl rfl (fun _ => ?_) (fun _ => ?_) <;> try (exfalso; omega)) | refine gdL rfl rfl (fun _ => ?_) (fun _ => ?_))
      | (show awp _ _ _ _; first | refine goA ?_ | refine awp_reg 3 5 mixed (by kernel_rfl) (by kernel_rfl) ?_ | (refine awp_condD rfl (fun _ => ?_) (fun _ => ?_) <;> try (exfalso; omega)) | (refine awp_condN rfl (fun _ => ?_) (fun _ => ?_) <;> try (exfalso; omega)) | refine awp_cond rfl (fun _ => ?_) (fun _ => ?_))
      | (show andThen _ _ _ _; first | refine goN ?_)
      | (show inBlock _ _ _ _; first | refine goB ?_)
      | (show awpR _ _ _ _ _ _; first | refine goR ?_ | refine clR 121 tt rfl rfl rfl (hr := hv) (k := ?_) | (refine gdRD rfl rfl (fun _ => ?_) (fun _ => ?_) <;> try (exfalso; omega)) | (refine gdRN rfl rfl (fun _ => ?_) (fun _ => ?_) <;> try (exfalso; omega)) | refine gdR rfl rfl (fun _ => ?_) (fun _ => ?_))
      | (show retPost _ _ _ _ _; first | refine finF true rfl rfl sc ?_ | refine finF false rfl rfl sc ?_ | refine finC false rfl rfl sc sc ?_ | refine finN rfl rfl sc ?_ | refine finL true rfl rfl sc rfl (LeR.cons rfl leL LeR.nil) ?_ | refine finA true rfl rfl sc ?_ | refine finA false rfl rfl sc ?_ | refine finE true rfl rfl sc ?_ | refine finE false rfl rfl sc ?_))
    exact leL
  | true =>
    rw [h] at hv
    rw [← intC_valid wm h]
    rw [show takeL mag = mag from by
      unfold validI at h; rw [Bool.and_eq_true] at h; simp [takeL, h.1]] at ht
    refine ret_of_awp tab Tryz.func78 rfl rfl (Nat.le_of_ble_eq_true rfl) (fun w0 F0 => ?_)
    repeat' (first
      | (show awpL _ _ _ _ _; first | refine goL ?_ | refine cl 121 tt rfl rfl rfl (hr := hv) (k := ?_) | refine cl 122 tt rfl rfl rfl (hr := ht) (k := ?_) | (refine gdLD rfl rfl (fun _ => ?_) (fun _ => ?_) <;> try (exfalso; omega)) | (refine gdLN rfl rfl (fun _ => ?_) (fun _ => ?_) <;> try (exfalso; omega)) | refine gdL rfl rfl (fun _ => ?_) (fun _ => ?_))
      | (show awp _ _ _ _; first | refine goA ?_ | refine awp_reg 3 5 mixed (by kernel_rfl) (by kernel_rfl) ?_ | (refine awp_condD rfl (fun _ => ?_) (fun _ => ?_) <;> try (exfalso; omega)) | (refine awp_condN rfl (fun _ => ?_) (fun _ => ?_) <;> try (exfalso; omega)) | refine awp_cond rfl (fun _ => ?_) (fun _ => ?_))
      | (show andThen _ _ _ _; first | refine goN ?_)
      | (show inBlock _ _ _ _; first | refine goB ?_)
      | (show awpR _ _ _ _ _ _; first | refine goR ?_ | refine clR 121 tt rfl rfl rfl (hr := hv) (k := ?_) | refine clR 122 tt rfl rfl rfl (hr := ht) (k := ?_) | (refine gdRD rfl rfl (fun _ => ?_) (fun _ => ?_) <;> try (exfalso; omega)) | (refine gdRN rfl rfl (fun _ => ?_) (fun _ => ?_) <;> try (exfalso; omega)) | refine gdR rfl rfl (fun _ => ?_) (fun _ => ?_))
      | (show retPost _ _ _ _ _; first | refine finF true rfl rfl sc ?_ | refine finF false rfl rfl sc ?_ | refine finC false rfl rfl sc sc ?_ | refine finN rfl rfl sc ?_ | refine finL true rfl rfl sc rfl (LeR.cons rfl leL LeR.nil) ?_ | refine finE true rfl rfl sc ?_ | refine finE false rfl rfl sc ?_))
    rfl
theorem ref02_signed (neg : Bool) (n : Nat) (hl : (limbs n).length < 100000000000) : Ret Tryz.prog 86 [.bool neg, u32s (limbs n)] (· = zD (if neg then -(n : Int) else n)) := by
  rw [← signed_z]
  cases neg with
  | false => 
    refine ret_of_awp tab Tryz.func86 rfl rfl (Nat.le_of_ble_eq_true rfl) (fun w0 F0 => ?_)
    repeat' (first
      | (show awpL _ _ _ _ _; first | refine goL ?_ | (refine gdLD rfl rfl (fun _ => ?_) (fun _ => ?_) <;> try (exfalso; omega)) | (refine gdLN rfl rfl (fun _ => ?_) (fun _ => ?_) <;> try (exfalso; omega)) | refine gdL rfl rfl (fun _ => ?_) (fun _ => ?_))
      | (show awp _ _ _ _; first | refine goA ?_ | (refine awp_condD rfl (fun _ => ?_) (fun _ => ?_) <;> try (exfalso; omega)) | (refine awp_condN rfl (fun _ => ?_) (fun _ => ?_) <;> try (exfalso; omega)) | refine awp_cond rfl (fun _ => ?_) (fun _ => ?_))
      | (show andThen _ _ _ _; first | refine goN ?_)
      | (show inBlock _ _ _ _; first | refine goB ?_)
      | (show awpR _ _ _ _ _ _; first | refine goR ?_ | (refine gdRD rfl rfl (fun _ => ?_) (fun _ => ?_) <;> try (exfalso; omega)) | (refine gdRN rfl rfl (fun _ => ?_) (fun _ => ?_) <;> try (exfalso; omega)) | refine gdR rfl rfl (fun _ => ?_) (fun _ => ?_))
      | (show retPost _ _ _ _ _; first | refine finF true rfl rfl sc ?_ | refine finF false rfl rfl sc ?_ | refine finC false rfl rfl sc sc ?_ | refine finN rfl rfl sc ?_ | refine finL true rfl rfl sc rfl (LeR.cons rfl leL LeR.nil) ?_ | refine finE true rfl rfl sc ?_ | refine finE false rfl rfl sc ?_))
    rfl
  | true =>
    refine ret_of_awp tab Tryz.func86 rfl rfl (Nat.le_of_ble_eq_true rfl) (fun w0 F0 => ?_)
    repeat' (first
      | (show awpL _ _ _ _ _; first | refine goL ?_ | (refine gdLD rfl rfl (fun _ => ?_) (fun _ => ?_) <;> try (exfalso; omega)) | (refine gdLN rfl rfl (fun _ => ?_) (fun _ => ?_) <;> try (exfalso; omega)) | refine gdL rfl rfl (fun _ => ?_) (fun _ => ?_))
      | (show awp _ _ _ _; first | refine goA ?_ | (refine awp_condD rfl (fun _ => ?_) (fun _ => ?_) <;> try (exfalso; omega)) | (refine awp_condN rfl (fun _ => ?_) (fun _ => ?_) <;> try (exfalso; omega)) | refine awp_cond rfl (fun _ => ?_) (fun _ => ?_))
      | (show andThen _ _ _ _; first | refine goN ?_)
      | (show inBlock _ _ _ _; first | refine goB ?_)
      | (show awpR _ _ _ _ _ _; first | refine goR ?_ | (refine gdRD rfl rfl (fun _ => ?_) (fun _ => ?_) <;> try (exfalso; omega)) | (refine gdRN rfl rfl (fun _ => ?_) (fun _ => ?_) <;> try (exfalso; omega)) | refine gdR rfl rfl (fun _ => ?_) (fun _ => ?_))
      | (show retPost _ _ _ _ _; first | refine finF true rfl rfl sc ?_ | refine finF false rfl rfl sc ?_ | refine finC false rfl rfl sc sc ?_ | refine finN rfl rfl sc ?_ | refine finL true rfl rfl sc rfl (LeR.cons rfl leL LeR.nil) ?_ | refine finE true rfl rfl sc ?_ | refine finE false rfl rfl sc ?_))
    simp; rfl

theorem ref02_TakeZ (z : Int) (hl : (limbs z.natAbs).length < 100000000000) : Ret Tryz.prog 78 [zD z] (· = zD z) := by
  have := ref02_Take (decide (z < 0)) (limbs z.natAbs) (wf_limbs _) hl
  rw [iv'_z] at this
  exact this

theorem ref02_Sign (neg : Bool) (mag : List Nat) (h : IntOk neg mag 100000000000) : Ret Tryz.prog 89 [intC neg mag] (· = .int .i64 (iv' neg mag).sign) := by
  have ht := ref02_Take neg mag h.wf h.len
  generalize iv' neg mag = z at *
  obtain ⟨s, n, e1, e2, e3, e4⟩ := zD_cases z
  rw [e1] at ht
  cases s with
  | true =>
    have h0 := e4 rfl
    have : z.sign = -1 := Int.sign_eq_neg_one_of_neg (by simp at e2; omega)
    rw [this]
    refine ret_of_awp tab Tryz.func89 rfl rfl (Nat.le_of_ble_eq_true rfl) (fun w0 F0 => ?_)
    repeat' (first
      | (show awpL _ _ _ _ _; first | refine goL ?_ | refine cl 78 tt rfl rfl rfl (hr := ht) (k := ?_) | (refine gdLD rfl rfl (fun _ => ?_) (fun _ => ?_) <;> try (exfalso; omega)) | (refine gdLN rfl rfl (fun _ => ?_) (fun _ => ?_) <;> try (exfalso; omega)) | refine gdL rfl rfl (fun _ => ?_) (fun _ => ?_))
      | (show awp _ _ _ _; first | refine goA ?_ | (refine awp_condD rfl (fun _ => ?_) (fun _ => ?_) <;> try (exfalso; omega)) | (refine awp_condN rfl (fun _ => ?_) (fun _ => ?_) <;> try (exfalso; omega)) | refine awp_cond rfl (fun _ => ?_) (fun _ => ?_))
      | (show andThen _ _ _ _; first | refine goN ?_)
      | (show inBlock _ _ _ _; first | refine goB ?_)
      | (show awpR _ _ _ _ _ _; first | refine goR ?_ | refine clR 78 tt rfl rfl rfl (hr := ht) (k := ?_) | (refine gdRD rfl rfl (fun _ => ?_) (fun _ => ?_) <;> try (exfalso; omega)) | (refine gdRN rfl rfl (fun _ => ?_) (fun _ => ?_) <;> try (exfalso; omega)) | refine gdR rfl rfl (fun _ => ?_) (fun _ => ?_))
      | (show retPost _ _ _ _ _; first | refine finF true rfl rfl sc ?_ | refine finF false rfl rfl sc ?_ | refine finC false rfl rfl sc sc ?_ | refine finN rfl rfl sc ?_ | refine finL true rfl rfl sc rfl (LeR.cons rfl leL LeR.nil) ?_ | refine finE true rfl rfl sc ?_ | refine finE false rfl rfl sc ?_))
    rfl
  | false =>
    simp at e2
    refine ret_of_awp tab Tryz.func89 rfl rfl (Nat.le_of_ble_eq_true rfl) (fun w0 F0 => ?_)
    repeat' (first
      | (show awpL _ _ _ _ _; first | refine goL ?_ | refine cl 78 tt rfl rfl rfl (hr := ht) (k := ?_) | (refine gdLD rfl rfl (fun _ => ?_) (fun _ => ?_) <;> try (exfalso; omega)) | (refine gdLN rfl rfl (fun _ => ?_) (fun _ => ?_) <;> try (exfalso; omega)) | refine gdL rfl rfl (fun _ => ?_) (fun _ => ?_))
      | (show awp _ _ _ _; first | refine goA ?_ | (refine awp_condD rfl (fun _ => ?_) (fun _ => ?_) <;> try (exfalso; omega)) | (refine awp_condN rfl (fun _ => ?_) (fun _ => ?_) <;> try (exfalso; omega)) | refine awp_cond rfl (fun _ => ?_) (fun _ => ?_))
      | (show andThen _ _ _ _; first | refine goN ?_)
      | (show inBlock _ _ _ _; first | refine goB ?_)
      | (show awpR _ _ _ _ _ _; first | refine goR ?_ | refine clR 78 tt rfl rfl rfl (hr := ht) (k := ?_) | (refine gdRD rfl rfl (fun _ => ?_) (fun _ => ?_) <;> try (exfalso; omega)) | (refine gdRN rfl rfl (fun _ => ?_) (fun _ => ?_) <;> try (exfalso; omega)) | refine gdR rfl rfl (fun _ => ?_) (fun _ => ?_))
      | (show retPost _ _ _ _ _; first | refine finF true rfl rfl sc ?_ | refine finF false rfl rfl sc ?_ | refine finC false rfl rfl sc sc ?_ | refine finN rfl rfl sc ?_ | refine finL true rfl rfl sc rfl (LeR.cons rfl leL LeR.nil) ?_ | refine finE true rfl rfl sc ?_ | refine finE false rfl rfl sc ?_))
    · rename_i hp
      have : z.sign = 1 := Int.sign_eq_one_of_pos (by
        have : n ≠ 0 := fun e => by subst e; rw [limbs_zero] at hp; simp at hp
        omega)
      rw [this]
    · rename_i hp
      have : n = 0 := limbs_eq_nil.1 (List.length_eq_zero_iff.1 (by omega))
      subst this
      rw [e2]; rfl

theorem ref02_Neg (neg : Bool) (mag : List Nat) (h : IntOk neg mag 100000000000) : Ret Tryz.prog 92 [intC neg mag] (· = zD (-iv' neg mag)) := by
  have ht := ref02_Take neg mag h.wf h.len
  have hl := h.val
  generalize iv' neg mag = z at *
  obtain ⟨s, n, e1, e2, e3, e4⟩ := zD_cases z
  rw [e1] at ht
  rw [e3] at hl
  cases s with
  | true =>
    have : -z = n := by simp at e2; omega
    rw [this]
    refine ret_of_awp tab Tryz.func92 rfl rfl (Nat.le_of_ble_eq_true rfl) (fun w0 F0 => ?_)
    repeat' (first
      | (show awpL _ _ _ _ _; first | refine goL ?_ | refine cl 78 tt rfl rfl rfl (hr := ht) (k := ?_) | refine cl 86 tt rfl rfl rfl (hr := ref02_signed false _ (by omega)) (k := ?_) | (refine gdLD rfl rfl (fun _ => ?_) (fun _ => ?_) <;> try (exfalso; omega)) | (refine gdLN rfl rfl (fun _ => ?_) (fun _ => ?_) <;> try (exfalso; omega)) | refine gdL rfl rfl (fun _ => ?_) (fun _ => ?_))
      | (show awp _ _ _ _; first | refine goA ?_ | (refine awp_condD rfl (fun _ => ?_) (fun _ => ?_) <;> try (exfalso; omega)) | (refine awp_condN rfl (fun _ => ?_) (fun _ => ?_) <;> try (exfalso; omega)) | refine awp_cond rfl (fun _ => ?_) (fun _ => ?_))
      | (show andThen _ _ _ _; first | refine goN ?_)
      | (show inBlock _ _ _ _; first | refine goB ?_)
      | (show awpR _ _ _ _ _ _; first | refine goR ?_ | refine clR 78 tt rfl rfl rfl (hr := ht) (k := ?_) | refine clR 86 tt rfl rfl rfl (hr := ref02_signed false _ (by omega)) (k := ?_) | (refine gdRD rfl rfl (fun _ => ?_) (fun _ => ?_) <;> try (exfalso; omega)) | (refine gdRN rfl rfl (fun _ => ?_) (fun _ => ?_) <;> try (exfalso; omega)) | refine gdR rfl rfl (fun _ => ?_) (fun _ => ?_))
      | (show retPost _ _ _ _ _; first | refine finF true rfl rfl sc ?_ | refine finF false rfl rfl sc ?_ | refine finC false rfl rfl sc sc ?_ | refine finN rfl rfl sc ?_ | refine finL true rfl rfl sc rfl (LeR.cons rfl leL LeR.nil) ?_ | refine finE true rfl rfl sc ?_ | refine finE false rfl rfl sc ?_))
    rfl
  | false =>
    have : -z = -(n : Int) := by simp at e2; omega
    rw [this]
    refine ret_of_awp tab Tryz.func92 rfl rfl (Nat.le_of_ble_eq_true rfl) (fun w0 F0 => ?_)
    repeat' (first
      | (show awpL _ _ _ _ _; first | refine goL ?_ | refine cl 78 tt rfl rfl rfl (hr := ht) (k := ?_) | refine cl 86 tt rfl rfl rfl (hr := ref02_signed true _ (by omega)) (k := ?_) | (refine gdLD rfl rfl (fun _ => ?_) (fun _ => ?_) <;> try (exfalso; omega)) | (refine gdLN rfl rfl (fun _ => ?_) (fun _ => ?_) <;> try (exfalso; omega)) | refine gdL rfl rfl (fun _ => ?_) (fun _ => ?_))
      | (show awp _ _ _ _; first | refine goA ?_ | (refine awp_condD rfl (fun _ => ?_) (fun _ => ?_) <;> try (exfalso; omega)) | (refine awp_condN rfl (fun _ => ?_) (fun _ => ?_) <;> try (exfalso; omega)) | refine awp_cond rfl (fun _ => ?_) (fun _ => ?_))
      | (show andThen _ _ _ _; first | refine goN ?_)
      | (show inBlock _ _ _ _; first | refine goB ?_)
      | (show awpR _ _ _ _ _ _; first | refine goR ?_ | refine clR 78 tt rfl rfl rfl (hr := ht) (k := ?_) | refine clR 86 tt rfl rfl rfl (hr := ref02_signed true _ (by omega)) (k := ?_) | (refine gdRD rfl rfl (fun _ => ?_) (fun _ => ?_) <;> try (exfalso; omega)) | (refine gdRN rfl rfl (fun _ => ?_) (fun _ => ?_) <;> try (exfalso; omega)) | refine gdR rfl rfl (fun _ => ?_) (fun _ => ?_))
      | (show retPost _ _ _ _ _; first | refine finF true rfl rfl sc ?_ | refine finF false rfl rfl sc ?_ | refine finC false rfl rfl sc sc ?_ | refine finN rfl rfl sc ?_ | refine finL true rfl rfl sc rfl (LeR.cons rfl leL LeR.nil) ?_ | refine finE true rfl rfl sc ?_ | refine finE false rfl rfl sc ?_))
    rfl

theorem ref02_Add (n1 n2 : Bool) (m1 m2 : List Nat) (h1 : IntOk n1 m1 10000000000) (h2 : IntOk n2 m2 10000000000) : Ret Tryz.prog 95 [intC n1 m1, intC n2 m2] (· = zD (iv' n1 m1 + iv' n2 m2)) := by
  have ta := ref02_Take n1 m1 h1.wf (Nat.lt_trans h1.len (by decide))
  have tb := ref02_Take n2 m2 h2.wf (Nat.lt_trans h2.len (by decide))
  have la := h1.val
  have lb := h2.val
  generalize iv' n1 m1 = x at *
  generalize iv' n2 m2 = y at *
  obtain ⟨s, a, e1, e2, e3, e4⟩ := zD_cases x
  obtain ⟨t, b, f1, f2, f3, f4⟩ := zD_cases y
  rw [e1] at ta
  rw [f1] at tb
  rw [e3] at la
  rw [f3] at lb
  have ladd := ln_add a b
  have ls := len_bound (Nat.sub_le a b) la
  have ls' := len_bound (Nat.sub_le b a) lb
  simp only [ln] at ladd
  cases s <;> cases t
  · refine ret_of_awp tab Tryz.func95 rfl rfl (Nat.le_of_ble_eq_true rfl) (fun w0 F0 => ?_)
    repeat' (first
      | (show awpL _ _ _ _ _; first | refine goL ?_ | refine cl 78 tt rfl rfl rfl (hr := ta) (k := ?_) | refine cl 78 tt rfl rfl rfl (hr := tb) (k := ?_) | refine cl 125 tt rfl rfl rfl (hr := ref01_SubN _ _ (by omega) (by omega)) (k := ?_) | refine cl 86 tt rfl rfl rfl (hr := ref02_signed _ _ (by omega)) (k := ?_) | refine cl 87 tt rfl rfl rfl (hr := ref01_AddN _ _ (by omega) (by omega)) (k := ?_) | refine cl 86 tt rfl rfl rfl (hr := ref02_signed false _ (by omega)) (k := ?_) | (refine gdLD rfl rfl (fun _ => ?_) (fun _ => ?_) <;> try (exfalso; omega)) | (refine gdLN rfl rfl (fun _ => ?_) (fun _ => ?_) <;> try (exfalso; omega)) | refine gdL rfl rfl (fun _ => ?_) (fun _ => ?_))
      | (show awp _ _ _ _; first | refine goA ?_ | refine awp_reg 1 3 mixed (by kernel_rfl) (by kernel_rfl) ?_ | refine awp_reg 3 7 mixed (by kernel_rfl) (by kernel_rfl) ?_ | (refine awp_condD rfl (fun _ => ?_) (fun _ => ?_) <;> try (exfalso; omega)) | (refine awp_condN rfl (fun _ => ?_) (fun _ => ?_) <;> try (exfalso; omega)) | refine awp_cond rfl (fun _ => ?_) (fun _ => ?_))
      | (show andThen _ _ _ _; first | refine goN ?_)
      | (show inBlock _ _ _ _; first | refine goB ?_)
      | (show awpR _ _ _ _ _ _; first | refine goR ?_ | refine clR 78 tt rfl rfl rfl (hr := ta) (k := ?_) | refine clR 78 tt rfl rfl rfl (hr := tb) (k := ?_) | refine clR 125 tt rfl rfl rfl (hr := ref01_SubN _ _ (by omega) (by omega)) (k := ?_) | refine clR 86 tt rfl rfl rfl (hr := ref02_signed _ _ (by omega)) (k := ?_) | refine clR 87 tt rfl rfl rfl (hr := ref01_AddN _ _ (by omega) (by omega)) (k := ?_) | refine clR 86 tt rfl rfl rfl (hr := ref02_signed false _ (by omega)) (k := ?_) | (refine gdRD rfl rfl (fun _ => ?_) (fun _ => ?_) <;> try (exfalso; omega)) | (refine gdRN rfl rfl (fun _ => ?_) (fun _ => ?_) <;> try (exfalso; omega)) | refine gdR rfl rfl (fun _ => ?_) (fun _ => ?_))
      | (show retPost _ _ _ _ _; first | refine finF true rfl rfl sc ?_ | refine finF false rfl rfl sc ?_ | refine finC false rfl rfl sc sc ?_ | refine finN rfl rfl sc ?_ | refine finL true rfl rfl sc rfl (LeR.cons rfl leL LeR.nil) ?_ | refine finE true rfl rfl sc ?_ | refine finE false rfl rfl sc ?_))
    show _ = zD _
    rw [e2, f2, show ((if false = true then -(a : Int) else a) + (if false = true then -(b : Int) else b) : Int) = (if false = true then -((a + b : Nat) : Int) else ((a + b : Nat) : Int)) by simp; try omega]; rfl
  · refine ret_of_awp tab Tryz.func95 rfl rfl (Nat.le_of_ble_eq_true rfl) (fun w0 F0 => ?_)
    repeat' (first
      | (show awpL _ _ _ _ _; first | refine goL ?_ | refine cl 78 tt rfl rfl rfl (hr := ta) (k := ?_) | refine cl 78 tt rfl rfl rfl (hr := tb) (k := ?_) | refine cl 125 tt rfl rfl rfl (hr := ref01_SubN _ _ (by omega) (by omega)) (k := ?_) | refine cl 86 tt rfl rfl rfl (hr := ref02_signed _ _ (by omega)) (k := ?_) | (refine gdLD rfl rfl (fun _ => ?_) (fun _ => ?_) <;> try (exfalso; omega)) | (refine gdLN rfl rfl (fun _ => ?_) (fun _ => ?_) <;> try (exfalso; omega)) | refine gdL rfl rfl (fun _ => ?_) (fun _ => ?_))
      | (show awp _ _ _ _; first | refine goA ?_ | refine awp_reg 1 3 mixed (by kernel_rfl) (by kernel_rfl) ?_ | refine awp_reg 3 7 mixed (by kernel_rfl) (by kernel_rfl) ?_ | (refine awp_condD rfl (fun _ => ?_) (fun _ => ?_) <;> try (exfalso; omega)) | (refine awp_condN rfl (fun _ => ?_) (fun _ => ?_) <;> try (exfalso; omega)) | refine awp_cond rfl (fun _ => ?_) (fun _ => ?_))
      | (show andThen _ _ _ _; first | refine goN ?_)
      | (show inBlock _ _ _ _; first | refine goB ?_)
      | (show awpR _ _ _ _ _ _; first | refine goR ?_ | refine clR 78 tt rfl rfl rfl (hr := ta) (k := ?_) | refine clR 78 tt rfl rfl rfl (hr := tb) (k := ?_) | refine clR 125 tt rfl rfl rfl (hr := ref01_SubN _ _ (by omega) (by omega)) (k := ?_) | refine clR 86 tt rfl rfl rfl (hr := ref02_signed _ _ (by omega)) (k := ?_) | (refine gdRD rfl rfl (fun _ => ?_) (fun _ => ?_) <;> try (exfalso; omega)) | (refine gdRN rfl rfl (fun _ => ?_) (fun _ => ?_) <;> try (exfalso; omega)) | refine gdR rfl rfl (fun _ => ?_) (fun _ => ?_))
      | (show retPost _ _ _ _ _; first | refine finF true rfl rfl sc ?_ | refine finF false rfl rfl sc ?_ | refine finC false rfl rfl sc sc ?_ | refine finN rfl rfl sc ?_ | refine finL true rfl rfl sc rfl (LeR.cons rfl leL LeR.nil) ?_ | refine finE true rfl rfl sc ?_ | refine finE false rfl rfl sc ?_))
    · refine congrArg zD ?_
      rw [e2, f2]; simp only [Bool.false_eq_true, if_true, if_false]; omega
    · refine congrArg zD ?_
      rw [e2, f2]; simp only [Bool.false_eq_true, if_true, if_false]; omega
  · refine ret_of_awp tab Tryz.func95 rfl rfl (Nat.le_of_ble_eq_true rfl) (fun w0 F0 => ?_)
    repeat' (first
      | (show awpL _ _ _ _ _; first | refine goL ?_ | refine cl 78 tt rfl rfl rfl (hr := ta) (k := ?_) | refine cl 78 tt rfl rfl rfl (hr := tb) (k := ?_) | refine cl 125 tt rfl rfl rfl (hr := ref01_SubN _ _ (by omega) (by omega)) (k := ?_) | refine cl 86 tt rfl rfl rfl (hr := ref02_signed _ _ (by omega)) (k := ?_) | (refine gdLD rfl rfl (fun _ => ?_) (fun _ => ?_) <;> try (exfalso; omega)) | (refine gdLN rfl rfl (fun _ => ?_) (fun _ => ?_) <;> try (exfalso; omega)) | refine gdL rfl rfl (fun _ => ?_) (fun _ => ?_))
      | (show awp _ _ _ _; first | refine goA ?_ | refine awp_reg 1 3 mixed (by kernel_rfl) (by kernel_rfl) ?_ | refine awp_reg 3 7 mixed (by kernel_rfl) (by kernel_rfl) ?_ | (refine awp_condD rfl (fun _ => ?_) (fun _ => ?_) <;> try (exfalso; omega)) | (refine awp_condN rfl (fun _ => ?_) (fun _ => ?_) <;> try (exfalso; omega)) | refine awp_cond rfl (fun _ => ?_) (fun _ => ?_))
      | (show andThen _ _ _ _; first | refine goN ?_)
      | (show inBlock _ _ _ _; first | refine goB ?_)
      | (show awpR _ _ _ _ _ _; first | refine goR ?_ | refine clR 78 tt rfl rfl rfl (hr := ta) (k := ?_) | refine clR 78 tt rfl rfl rfl (hr := tb) (k := ?_) | refine clR 125 tt rfl rfl rfl (hr := ref01_SubN _ _ (by omega) (by omega)) (k := ?_) | refine clR 86 tt rfl rfl rfl (hr := ref02_signed _ _ (by omega)) (k := ?_) | (refine gdRD rfl rfl (fun _ => ?_) (fun _ => ?_) <;> try (exfalso; omega)) | (refine gdRN rfl rfl (fun _ => ?_) (fun _ => ?_) <;> try (exfalso; omega)) | refine gdR rfl rfl (fun _ => ?_) (fun _ => ?_))
      | (show retPost _ _ _ _ _; first | refine finF true rfl rfl sc ?_ | refine finF false rfl rfl sc ?_ | refine finC false rfl rfl sc sc ?_ | refine finN rfl rfl sc ?_ | refine finL true rfl rfl sc rfl (LeR.cons rfl leL LeR.nil) ?_ | refine finE true rfl rfl sc ?_ | refine finE false rfl rfl sc ?_))
    · refine congrArg zD ?_
      rw [e2, f2]; simp only [Bool.false_eq_true, if_true, if_false]; omega
    · refine congrArg zD ?_
      rw [e2, f2]; simp only [Bool.false_eq_true, if_true, if_false]; omega
  · refine ret_of_awp tab Tryz.func95 rfl rfl (Nat.le_of_ble_eq_true rfl) (fun w0 F0 => ?_)
    repeat' (first
      | (show awpL _ _ _ _ _; first | refine goL ?_ | refine cl 78 tt rfl rfl rfl (hr := ta) (k := ?_) | refine cl 78 tt rfl rfl rfl (hr := tb) (k := ?_) | refine cl 125 tt rfl rfl rfl (hr := ref01_SubN _ _ (by omega) (by omega)) (k := ?_) | refine cl 86 tt rfl rfl rfl (hr := ref02_signed _ _ (by omega)) (k := ?_) | refine cl 87 tt rfl rfl rfl (hr := ref01_AddN _ _ (by omega) (by omega)) (k := ?_) | refine cl 86 tt rfl rfl rfl (hr := ref02_signed true _ (by omega)) (k := ?_) | (refine gdLD rfl rfl (fun _ => ?_) (fun _ => ?_) <;> try (exfalso; omega)) | (refine gdLN rfl rfl (fun _ => ?_) (fun _ => ?_) <;> try (exfalso; omega)) | refine gdL rfl rfl (fun _ => ?_) (fun _ => ?_))
      | (show awp _ _ _ _; first | refine goA ?_ | refine awp_reg 1 3 mixed (by kernel_rfl) (by kernel_rfl) ?_ | refine awp_reg 3 7 mixed (by kernel_rfl) (by kernel_rfl) ?_ | (refine awp_condD rfl (fun _ => ?_) (fun _ => ?_) <;> try (exfalso; omega)) | (refine awp_condN rfl (fun _ => ?_) (fun _ => ?_) <;> try (exfalso; omega)) | refine awp_cond rfl (fun _ => ?_) (fun _ => ?_))
      | (show andThen _ _ _ _; first | refine goN ?_)
      | (show inBlock _ _ _ _; first | refine goB ?_)
      | (show awpR _ _ _ _ _ _; first | refine goR ?_ | refine clR 78 tt rfl rfl rfl (hr := ta) (k := ?_) | refine clR 78 tt rfl rfl rfl (hr := tb) (k := ?_) | refine clR 125 tt rfl rfl rfl (hr := ref01_SubN _ _ (by omega) (by omega)) (k := ?_) | refine clR 86 tt rfl rfl rfl (hr := ref02_signed _ _ (by omega)) (k := ?_) | refine clR 87 tt rfl rfl rfl (hr := ref01_AddN _ _ (by omega) (by omega)) (k := ?_) | refine clR 86 tt rfl rfl rfl (hr := ref02_signed true _ (by omega)) (k := ?_) | (refine gdRD rfl rfl (fun _ => ?_) (fun _ => ?_) <;> try (exfalso; omega)) | (refine gdRN rfl rfl (fun _ => ?_) (fun _ => ?_) <;> try (exfalso; omega)) | refine gdR rfl rfl (fun _ => ?_) (fun _ => ?_))
      | (show retPost _ _ _ _ _; first | refine finF true rfl rfl sc ?_ | refine finF false rfl rfl sc ?_ | refine finC false rfl rfl sc sc ?_ | refine finN rfl rfl sc ?_ | refine finL true rfl rfl sc rfl (LeR.cons rfl leL LeR.nil) ?_ | refine finE true rfl rfl sc ?_ | refine finE false rfl rfl sc ?_))
    show _ = zD _
    rw [e2, f2, show ((if true = true then -(a : Int) else a) + (if true = true then -(b : Int) else b) : Int) = (if true = true then -((a + b : Nat) : Int) else ((a + b : Nat) : Int)) by simp; try omega]; rfl

theorem ref02_Mul (n1 n2 : Bool) (m1 m2 : List Nat) (h1 : IntOk n1 m1 1000000000) (h2 : IntOk n2 m2 1000000000) : Ret Tryz.prog 84 [intC n1 m1, intC n2 m2] (· = zD (iv' n1 m1 * iv' n2 m2)) := by
  have ta := ref02_Take n1 m1 h1.wf (Nat.lt_trans h1.len (by decide))
  have tb := ref02_Take n2 m2 h2.wf (Nat.lt_trans h2.len (by decide))
  have la := h1.val
  have lb := h2.val
  generalize iv' n1 m1 = x at *
  generalize iv' n2 m2 = y at *
  obtain ⟨s, a, e1, e2, e3, e4⟩ := zD_cases x
  obtain ⟨t, b, f1, f2, f3, f4⟩ := zD_cases y
  rw [e1] at ta
  rw [f1] at tb
  rw [e3] at la
  rw [f3] at lb
  have lm := ln_mul a b
  simp only [ln] at lm
  have hm := ref01_MulN a b la lb
  have hs := fun s => ref02_signed s (a * b) (by omega)
  rw [e2, f2]
  cases s <;> cases t
  · refine ret_of_awp tab Tryz.func84 rfl rfl (Nat.le_of_ble_eq_true rfl) (fun w0 F0 => ?_)
    repeat' (first
      | (show awpL _ _ _ _ _; first | refine goL ?_ | refine cl 78 tt rfl rfl rfl (hr := ta) (k := ?_) | refine cl 78 tt rfl rfl rfl (hr := tb) (k := ?_) | refine cl 127 tt rfl rfl rfl (hr := hm) (k := ?_) | refine cl 86 tt rfl rfl rfl (hr := hs false) (k := ?_) | (refine gdLD rfl rfl (fun _ => ?_) (fun _ => ?_) <;> try (exfalso; omega)) | (refine gdLN rfl rfl (fun _ => ?_) (fun _ => ?_) <;> try (exfalso; omega)) | refine gdL rfl rfl (fun _ => ?_) (fun _ => ?_))
      | (show awp _ _ _ _; first | refine goA ?_ | refine awp_reg 1 3 mixed (by kernel_rfl) (by kernel_rfl) ?_ | refine awp_reg 2 10 mixed (by kernel_rfl) (by kernel_rfl) ?_ | (refine awp_condD rfl (fun _ => ?_) (fun _ => ?_) <;> try (exfalso; omega)) | (refine awp_condN rfl (fun _ => ?_) (fun _ => ?_) <;> try (exfalso; omega)) | refine awp_cond rfl (fun _ => ?_) (fun _ => ?_))
      | (show andThen _ _ _ _; first | refine goN ?_)
      | (show inBlock _ _ _ _; first | refine goB ?_)
      | (show awpR _ _ _ _ _ _; first | refine goR ?_ | refine clR 78 tt rfl rfl rfl (hr := ta) (k := ?_) | refine clR 78 tt rfl rfl rfl (hr := tb) (k := ?_) | refine clR 127 tt rfl rfl rfl (hr := hm) (k := ?_) | refine clR 86 tt rfl rfl rfl (hr := hs false) (k := ?_) | (refine gdRD rfl rfl (fun _ => ?_) (fun _ => ?_) <;> try (exfalso; omega)) | (refine gdRN rfl rfl (fun _ => ?_) (fun _ => ?_) <;> try (exfalso; omega)) | refine gdR rfl rfl (fun _ => ?_) (fun _ => ?_))
      | (show retPost _ _ _ _ _; first | refine finF true rfl rfl sc ?_ | refine finF false rfl rfl sc ?_ | refine finC false rfl rfl sc sc ?_ | refine finN rfl rfl sc ?_ | refine finL true rfl rfl sc rfl (LeR.cons rfl leL LeR.nil) ?_ | refine finE true rfl rfl sc ?_ | refine finE false rfl rfl sc ?_))
    refine congrArg zD ?_
    simp [Int.neg_mul, Int.mul_neg]
  · refine ret_of_awp tab Tryz.func84 rfl rfl (Nat.le_of_ble_eq_true rfl) (fun w0 F0 => ?_)
    repeat' (first
      | (show awpL _ _ _ _ _; first | refine goL ?_ | refine cl 78 tt rfl rfl rfl (hr := ta) (k := ?_) | refine cl 78 tt rfl rfl rfl (hr := tb) (k := ?_) | refine cl 127 tt rfl rfl rfl (hr := hm) (k := ?_) | refine cl 86 tt rfl rfl rfl (hr := hs true) (k := ?_) | (refine gdLD rfl rfl (fun _ => ?_) (fun _ => ?_) <;> try (exfalso; omega)) | (refine gdLN rfl rfl (fun _ => ?_) (fun _ => ?_) <;> try (exfalso; omega)) | refine gdL rfl rfl (fun _ => ?_) (fun _ => ?_))
      | (show awp _ _ _ _; first | refine goA ?_ | refine awp_reg 1 3 mixed (by kernel_rfl) (by kernel_rfl) ?_ | refine awp_reg 2 10 mixed (by kernel_rfl) (by kernel_rfl) ?_ | (refine awp_condD rfl (fun _ => ?_) (fun _ => ?_) <;> try (exfalso; omega)) | (refine awp_condN rfl (fun _ => ?_) (fun _ => ?_) <;> try (exfalso; omega)) | refine awp_cond rfl (fun _ => ?_) (fun _ => ?_))
      | (show andThen _ _ _ _; first | refine goN ?_)
      | (show inBlock _ _ _ _; first | refine goB ?_)
      | (show awpR _ _ _ _ _ _; first | refine goR ?_ | refine clR 78 tt rfl rfl rfl (hr := ta) (k := ?_) | refine clR 78 tt rfl rfl rfl (hr := tb) (k := ?_) | refine clR 127 tt rfl rfl rfl (hr := hm) (k := ?_) | refine clR 86 tt rfl rfl rfl (hr := hs true) (k := ?_) | (refine gdRD rfl rfl (fun _ => ?_) (fun _ => ?_) <;> try (exfalso; omega)) | (refine gdRN rfl rfl (fun _ => ?_) (fun _ => ?_) <;> try (exfalso; omega)) | refine gdR rfl rfl (fun _ => ?_) (fun _ => ?_))
      | (show retPost _ _ _ _ _; first | refine finF true rfl rfl sc ?_ | refine finF false rfl rfl sc ?_ | refine finC false rfl rfl sc sc ?_ | refine finN rfl rfl sc ?_ | refine finL true rfl rfl sc rfl (LeR.cons rfl leL LeR.nil) ?_ | refine finE true rfl rfl sc ?_ | refine finE false rfl rfl sc ?_))
    refine congrArg zD ?_
    simp [Int.neg_mul, Int.mul_neg]
  · refine ret_of_awp tab Tryz.func84 rfl rfl (Nat.le_of_ble_eq_true rfl) (fun w0 F0 => ?_)
    repeat' (first
      | (show awpL _ _ _ _ _; first | refine goL ?_ | refine cl 78 tt rfl rfl rfl (hr := ta) (k := ?_) | refine cl 78 tt rfl rfl rfl (hr := tb) (k := ?_) | refine cl 127 tt rfl rfl rfl (hr := hm) (k := ?_) | refine cl 86 tt rfl rfl rfl (hr := hs true) (k := ?_) | (refine gdLD rfl rfl (fun _ => ?_) (fun _ => ?_) <;> try (exfalso; omega)) | (refine gdLN rfl rfl (fun _ => ?_) (fun _ => ?_) <;> try (exfalso; omega)) | refine gdL rfl rfl (fun _ => ?_) (fun _ => ?_))
      | (show awp _ _ _ _; first | refine goA ?_ | refine awp_reg 1 3 mixed (by kernel_rfl) (by kernel_rfl) ?_ | refine awp_reg 2 10 mixed (by kernel_rfl) (by kernel_rfl) ?_ | (refine awp_condD rfl (fun _ => ?_) (fun _ => ?_) <;> try (exfalso; omega)) | (refine awp_condN rfl (fun _ => ?_) (fun _ => ?_) <;> try (exfalso; omega)) | refine awp_cond rfl (fun _ => ?_) (fun _ => ?_))
      | (show andThen _ _ _ _; first | refine goN ?_)
      | (show inBlock _ _ _ _; first | refine goB ?_)
      | (show awpR _ _ _ _ _ _; first | refine goR ?_ | refine clR 78 tt rfl rfl rfl (hr := ta) (k := ?_) | refine clR 78 tt rfl rfl rfl (hr := tb) (k := ?_) | refine clR 127 tt rfl rfl rfl (hr := hm) (k := ?_) | refine clR 86 tt rfl rfl rfl (hr := hs true) (k := ?_) | (refine gdRD rfl rfl (fun _ => ?_) (fun _ => ?_) <;> try (exfalso; omega)) | (refine gdRN rfl rfl (fun _ => ?_) (fun _ => ?_) <;> try (exfalso; omega)) | refine gdR rfl rfl (fun _ => ?_) (fun _ => ?_))
      | (show retPost _ _ _ _ _; first | refine finF true rfl rfl sc ?_ | refine finF false rfl rfl sc ?_ | refine finC false rfl rfl sc sc ?_ | refine finN rfl rfl sc ?_ | refine finL true rfl rfl sc rfl (LeR.cons rfl leL LeR.nil) ?_ | refine finE true rfl rfl sc ?_ | refine finE false rfl rfl sc ?_))
    refine congrArg zD ?_
    simp [Int.neg_mul, Int.mul_neg]
  · refine ret_of_awp tab Tryz.func84 rfl rfl (Nat.le_of_ble_eq_true rfl) (fun w0 F0 => ?_)
    repeat' (first
      | (show awpL _ _ _ _ _; first | refine goL ?_ | refine cl 78 tt rfl rfl rfl (hr := ta) (k := ?_) | refine cl 78 tt rfl rfl rfl (hr := tb) (k := ?_) | refine cl 127 tt rfl rfl rfl (hr := hm) (k := ?_) | refine cl 86 tt rfl rfl rfl (hr := hs false) (k := ?_) | (refine gdLD rfl rfl (fun _ => ?_) (fun _ => ?_) <;> try (exfalso; omega)) | (refine gdLN rfl rfl (fun _ => ?_) (fun _ => ?_) <;> try (exfalso; omega)) | refine gdL rfl rfl (fun _ => ?_) (fun _ => ?_))
      | (show awp _ _ _ _; first | refine goA ?_ | refine awp_reg 1 3 mixed (by kernel_rfl) (by kernel_rfl) ?_ | refine awp_reg 2 10 mixed (by kernel_rfl) (by kernel_rfl) ?_ | (refine awp_condD rfl (fun _ => ?_) (fun _ => ?_) <;> try (exfalso; omega)) | (refine awp_condN rfl (fun _ => ?_) (fun _ => ?_) <;> try (exfalso; omega)) | refine awp_cond rfl (fun _ => ?_) (fun _ => ?_))
      | (show andThen _ _ _ _; first | refine goN ?_)
      | (show inBlock _ _ _ _; first | refine goB ?_)
      | (show awpR _ _ _ _ _ _; first | refine goR ?_ | refine clR 78 tt rfl rfl rfl (hr := ta) (k := ?_) | refine clR 78 tt rfl rfl rfl (hr := tb) (k := ?_) | refine clR 127 tt rfl rfl rfl (hr := hm) (k := ?_) | refine clR 86 tt rfl rfl rfl (hr := hs false) (k := ?_) | (refine gdRD rfl rfl (fun _ => ?_) (fun _ => ?_) <;> try (exfalso; omega)) | (refine gdRN rfl rfl (fun _ => ?_) (fun _ => ?_) <;> try (exfalso; omega)) | refine gdR rfl rfl (fun _ => ?_) (fun _ => ?_))
      | (show retPost _ _ _ _ _; first | refine finF true rfl rfl sc ?_ | refine finF false rfl rfl sc ?_ | refine finC false rfl rfl sc sc ?_ | refine finN rfl rfl sc ?_ | refine finL true rfl rfl sc rfl (LeR.cons rfl leL LeR.nil) ?_ | refine finE true rfl rfl sc ?_ | refine finE false rfl rfl sc ?_))
    refine congrArg zD ?_
    simp [Int.neg_mul, Int.mul_neg]

theorem ref02_Gcd (n1 n2 : Bool) (m1 m2 : List Nat) (h1 : IntOk n1 m1 10000000) (h2 : IntOk n2 m2 10000000) : Ret Tryz.prog 93 [intC n1 m1, intC n2 m2] (· = u32s (limbs (Int.gcd (iv' n1 m1) (iv' n2 m2)))) := by
  have ta := ref02_Take n1 m1 h1.wf (Nat.lt_trans h1.len (by decide))
  have tb := ref02_Take n2 m2 h2.wf (Nat.lt_trans h2.len (by decide))
  have la := h1.val
  have lb := h2.val
  generalize iv' n1 m1 = x at *
  generalize iv' n2 m2 = y at *
  obtain ⟨s, a, e1, e2, e3, e4⟩ := zD_cases x
  obtain ⟨t, b, f1, f2, f3, f4⟩ := zD_cases y
  rw [e1] at ta
  rw [f1] at tb
  unfold Int.gcd
  rw [e3] at la ⊢
  rw [f3] at lb ⊢
  refine ret_of_awp tab Tryz.func93 rfl rfl (Nat.le_of_ble_eq_true rfl) (fun w0 F0 => ?_)
  repeat' (first
    | (show awpL _ _ _ _ _; first | refine goL ?_ | refine cl 78 tt rfl rfl rfl (hr := ta) (k := ?_) | refine cl 78 tt rfl rfl rfl (hr := tb) (k := ?_) | refine cl 131 tt rfl rfl rfl (hr := ref01_GcdN _ _ (by omega) (by omega)) (k := ?_) | (refine gdLD rfl rfl (fun _ => ?_) (fun _ => ?_) <;> try (exfalso; omega)) | (refine gdLN rfl rfl (fun _ => ?_) (fun _ => ?_) <;> try (exfalso; omega)) | refine gdL rfl rfl (fun _ => ?_) (fun _ => ?_))
    | (show awp _ _ _ _; first | refine goA ?_ | refine awp_reg 1 6 mixed (by kernel_rfl) (by kernel_rfl) ?_ | (refine awp_condD rfl (fun _ => ?_) (fun _ => ?_) <;> try (exfalso; omega)) | (refine awp_condN rfl (fun _ => ?_) (fun _ => ?_) <;> try (exfalso; omega)) | refine awp_cond rfl (fun _ => ?_) (fun _ => ?_))
    | (show andThen _ _ _ _; first | refine goN ?_)
    | (show inBlock _ _ _ _; first | refine goB ?_)
    | (show awpR _ _ _ _ _ _; first | refine goR ?_ | refine clR 78 tt rfl rfl rfl (hr := ta) (k := ?_) | refine clR 78 tt rfl rfl rfl (hr := tb) (k := ?_) | refine clR 131 tt rfl rfl rfl (hr := ref01_GcdN _ _ (by omega) (by omega)) (k := ?_) | (refine gdRD rfl rfl (fun _ => ?_) (fun _ => ?_) <;> try (exfalso; omega)) | (refine gdRN rfl rfl (fun _ => ?_) (fun _ => ?_) <;> try (exfalso; omega)) | refine gdR rfl rfl (fun _ => ?_) (fun _ => ?_))
    | (show retPost _ _ _ _ _; first | refine finF true rfl rfl sc ?_ | refine finF false rfl rfl sc ?_ | refine finC false rfl rfl sc sc ?_ | refine finN rfl rfl sc ?_ | refine finL true rfl rfl sc rfl (LeR.cons rfl leL LeR.nil) ?_ | refine finE true rfl rfl sc ?_ | refine finE false rfl rfl sc ?_))
  rfl

theorem ref01_FromUintI (i : Int) (v : Nat) (e : i = v) (h : v < 18446744073709551616) : Ret Tryz.prog 88 [.int .u64 i] (· = u32s (limbs v)) := by
  subst e; exact ref01_FromUint v h
theorem u64_len {v : Nat} (h : v < 18446744073709551616) : (limbs v).length ≤ 2 := length_limbs_le (by simpa [B_val] using h)
theorem ref02_FromInt (v : Int) (h1 : -9223372036854775808 ≤ v) (h2 : v < 9223372036854775808) : Ret Tryz.prog 44 [.int .i64 v] (· = zD v) := by
  by_cases h : v < 0
  · obtain ⟨n, hn⟩ : ∃ n : Nat, v = -((n + 1 : Nat) : Int) := ⟨(-(v + 1)).toNat, by omega⟩
    have l1 := u64_len (v := n) (by omega)
    have l2 := u64_len (v := n + 1) (by omega)
    have ha := ref01_AddN n 1 (by omega) (by have := ln_one; simp only [ln] at this; omega)
    rw [show limbs 1 = [1] from limbs_small (by decide) (by decide)] at ha
    refine ret_of_awp tab Tryz.func44 rfl rfl (Nat.le_of_ble_eq_true rfl) (fun w0 F0 => ?_)
    repeat' (first
      | (show awpL _ _ _ _ _; first | refine goL ?_ | refine cl 88 tt rfl rfl rfl (hr := ref01_FromUintI _ n (by omega) (by omega)) (k := ?_) | refine cl 87 tt rfl rfl rfl (hr := ha) (k := ?_) | refine cl 86 tt rfl rfl rfl (hr := ref02_signed true _ (by omega)) (k := ?_) | (refine gdLD rfl rfl (fun _ => ?_) (fun _ => ?_) <;> try (exfalso; omega)) | (refine gdLN rfl rfl (fun _ => ?_) (fun _ => ?_) <;> try (exfalso; omega)) | refine gdL rfl rfl (fun _ => ?_) (fun _ => ?_))
      | (show awp _ _ _ _; first | refine goA ?_ | (refine awp_condD rfl (fun _ => ?_) (fun _ => ?_) <;> try (exfalso; omega)) | (refine awp_condN rfl (fun _ => ?_) (fun _ => ?_) <;> try (exfalso; omega)) | refine awp_cond rfl (fun _ => ?_) (fun _ => ?_))
      | (show andThen _ _ _ _; first | refine goN ?_)
      | (show inBlock _ _ _ _; first | refine goB ?_)
      | (show awpR _ _ _ _ _ _; first | refine goR ?_ | refine clR 88 tt rfl rfl rfl (hr := ref01_FromUintI _ n (by omega) (by omega)) (k := ?_) | refine clR 87 tt rfl rfl rfl (hr := ha) (k := ?_) | refine clR 86 tt rfl rfl rfl (hr := ref02_signed true _ (by omega)) (k := ?_) | (refine gdRD rfl rfl (fun _ => ?_) (fun _ => ?_) <;> try (exfalso; omega)) | (refine gdRN rfl rfl (fun _ => ?_) (fun _ => ?_) <;> try (exfalso; omega)) | refine gdR rfl rfl (fun _ => ?_) (fun _ => ?_))
      | (show retPost _ _ _ _ _; first | refine finF true rfl rfl sc ?_ | refine finF false rfl rfl sc ?_ | refine finC false rfl rfl sc sc ?_ | refine finN rfl rfl sc ?_ | refine finL true rfl rfl sc rfl (LeR.cons rfl leL LeR.nil) ?_ | refine finE true rfl rfl sc ?_ | refine finE false rfl rfl sc ?_))
    refine congrArg zD ?_
    simp only [if_true]; omega
  · obtain ⟨n, hn⟩ : ∃ n : Nat, v = n := ⟨v.toNat, by omega⟩
    have l1 := u64_len (v := n) (by omega)
    refine ret_of_awp tab Tryz.func44 rfl rfl (Nat.le_of_ble_eq_true rfl) (fun w0 F0 => ?_)
    repeat' (first
      | (show awpL _ _ _ _ _; first | refine goL ?_ | refine cl 88 tt rfl rfl rfl (hr := ref01_FromUintI _ n (by omega) (by omega)) (k := ?_) | refine cl 86 tt rfl rfl rfl (hr := ref02_signed false _ (by omega)) (k := ?_) | (refine gdLD rfl rfl (fun _ => ?_) (fun _ => ?_) <;> try (exfalso; omega)) | (refine gdLN rfl rfl (fun _ => ?_) (fun _ => ?_) <;> try (exfalso; omega)) | refine gdL rfl rfl (fun _ => ?_) (fun _ => ?_))
      | (show awp _ _ _ _; first | refine goA ?_ | (refine awp_condD rfl (fun _ => ?_) (fun _ => ?_) <;> try (exfalso; omega)) | (refine awp_condN rfl (fun _ => ?_) (fun _ => ?_) <;> try (exfalso; omega)) | refine awp_cond rfl (fun _ => ?_) (fun _ => ?_))
      | (show andThen _ _ _ _; first | refine goN ?_)
      | (show inBlock _ _ _ _; first | refine goB ?_)
      | (show awpR _ _ _ _ _ _; first | refine goR ?_ | refine clR 88 tt rfl rfl rfl (hr := ref01_FromUintI _ n (by omega) (by omega)) (k := ?_) | refine clR 86 tt rfl rfl rfl (hr := ref02_signed false _ (by omega)) (k := ?_) | (refine gdRD rfl rfl (fun _ => ?_) (fun _ => ?_) <;> try (exfalso; omega)) | (refine gdRN rfl rfl (fun _ => ?_) (fun _ => ?_) <;> try (exfalso; omega)) | refine gdR rfl rfl (fun _ => ?_) (fun _ => ?_))
      | (show retPost _ _ _ _ _; first | refine finF true rfl rfl sc ?_ | refine finF false rfl rfl sc ?_ | refine finC false rfl rfl sc sc ?_ | refine finN rfl rfl sc ?_ | refine finL true rfl rfl sc rfl (LeR.cons rfl leL LeR.nil) ?_ | refine finE true rfl rfl sc ?_ | refine finE false rfl rfl sc ?_))
    refine congrArg zD ?_
    simp only [Bool.false_eq_true, if_false]; omega

theorem euc {x y q r : Int} (h : y * q + r = x) (h0 : 0 ≤ r) (h1 : r < y.natAbs) : x / y = q ∧ x % y = r := by
  have hy : y ≠ 0 := by omega
  subst h
  have e1 : r % y = r := by
    rcases Int.lt_or_gt_of_ne hy with h | h
    · rw [← Int.emod_neg]; exact Int.emod_eq_of_lt h0 (by omega)
    · exact Int.emod_eq_of_lt h0 (by omega)
  have e2 : r / y = 0 := by
    have := Int.mul_ediv_add_emod r y
    rw [e1] at this
    have : y * (r / y) = 0 := by omega
    rcases Int.mul_eq_zero.1 this with h | h
    · exact absurd h hy
    · exact h
  rw [Int.add_comm, Int.add_mul_ediv_left _ _ hy, e2, Int.add_mul_emod_self_left, e1]
  exact ⟨by omega, rfl⟩

theorem divz {x y q r : Int} (h : y * q + r = x) (h0 : 0 ≤ r) (h1 : r < y.natAbs) : D.tup [zD q, zD r, D.bool true] = D.tup [zD (x / y), zD (x % y), D.bool true] := by
  obtain ⟨e1, e2⟩ := euc h h0 h1
  rw [e1, e2]
theorem ref02_Div (n1 n2 : Bool) (m1 m2 : List Nat) (h1 : IntOk n1 m1 10000000) (h2 : IntOk n2 m2 10000000) (h0 : iv' n2 m2 ≠ 0) : Ret Tryz.prog 81 [intC n1 m1, intC n2 m2] (· = .tup [zD (iv' n1 m1 / iv' n2 m2), zD (iv' n1 m1 % iv' n2 m2), .bool true]) := by
  have ta := ref02_Take n1 m1 h1.wf (Nat.lt_trans h1.len (by decide))
  have tb := ref02_Take n2 m2 h2.wf (Nat.lt_trans h2.len (by decide))
  have la := h1.val
  have lb := h2.val
  generalize iv' n1 m1 = x at *
  generalize iv' n2 m2 = y at *
  obtain ⟨s, a, e1, e2, e3, e4⟩ := zD_cases x
  obtain ⟨t, b, f1, f2, f3, f4⟩ := zD_cases y
  rw [e1] at ta
  rw [f1] at tb
  rw [e3] at la
  rw [f3] at lb
  have hb : b ≠ 0 := by omega
  have hd := ref01_DivN a b (by omega) (by omega) hb
  have l1 := len_bound (Nat.div_le_self a b) la
  have hr := Nat.mod_lt a (Nat.pos_of_ne_zero hb)
  have hx := Nat.div_add_mod a b
  have l2 := len_bound (Nat.le_of_lt hr) lb
  have l3 := len_bound (Nat.sub_le b (a % b)) lb
  have l4 := ln_add (a / b) 1
  have l5 := ln_one
  simp only [ln] at l4 l5
  have ha := ref01_AddN (a / b) 1 (by omega) (by omega)
  rw [show limbs 1 = [1] from limbs_small (by decide) (by decide)] at ha
  have hs := ref01_SubN b (a % b) (by omega) (by omega)
  have hz : (limbs (a % b)).length = 0 ↔ a % b = 0 := ⟨fun h => limbs_eq_nil.1 (List.length_eq_zero_iff.1 h), fun h => by rw [h, limbs_zero]; rfl⟩
  generalize a / b = q at *
  generalize a % b = r at *
  have hx' : (b : Int) * q + r = a := by rw [← hx]; simp
  cases s <;> cases t
  · simp only [Bool.false_eq_true, if_true, if_false] at e2 f2
    refine ret_of_awp tab Tryz.func81 rfl rfl (Nat.le_of_ble_eq_true rfl) (fun w0 F0 => ?_)
    repeat' (first
      | (show awpL _ _ _ _ _; first | refine goL ?_ | refine cl 78 tt rfl rfl rfl (hr := ta) (k := ?_) | refine cl 78 tt rfl rfl rfl (hr := tb) (k := ?_) | refine cl 124 tt rfl rfl rfl (hr := hd) (k := ?_) | refine cl 87 tt rfl rfl rfl (hr := ha) (k := ?_) | refine cl 125 tt rfl rfl rfl (hr := hs) (k := ?_) | refine cl 86 tt rfl rfl rfl (hr := ref02_signed _ _ (by omega)) (k := ?_) | (refine gdLD rfl rfl (fun _ => ?_) (fun _ => ?_) <;> try (exfalso; omega)) | (refine gdLN rfl rfl (fun _ => ?_) (fun _ => ?_) <;> try (exfalso; omega)) | refine gdL rfl rfl (fun _ => ?_) (fun _ => ?_))
      | (show awp _ _ _ _; first | refine goA ?_ | refine awp_reg 1 3 mixed (by kernel_rfl) (by kernel_rfl) ?_ | (refine awp_condD rfl (fun _ => ?_) (fun _ => ?_) <;> try (exfalso; omega)) | (refine awp_condN rfl (fun _ => ?_) (fun _ => ?_) <;> try (exfalso; omega)) | refine awp_cond rfl (fun _ => ?_) (fun _ => ?_))
      | (show andThen _ _ _ _; first | refine goN ?_)
      | (show inBlock _ _ _ _; first | refine goB ?_)
      | (show awpR _ _ _ _ _ _; first | refine goR ?_ | refine clR 78 tt rfl rfl rfl (hr := ta) (k := ?_) | refine clR 78 tt rfl rfl rfl (hr := tb) (k := ?_) | refine clR 124 tt rfl rfl rfl (hr := hd) (k := ?_) | refine clR 87 tt rfl rfl rfl (hr := ha) (k := ?_) | refine clR 125 tt rfl rfl rfl (hr := hs) (k := ?_) | refine clR 86 tt rfl rfl rfl (hr := ref02_signed _ _ (by omega)) (k := ?_) | (refine gdRD rfl rfl (fun _ => ?_) (fun _ => ?_) <;> try (exfalso; omega)) | (refine gdRN rfl rfl (fun _ => ?_) (fun _ => ?_) <;> try (exfalso; omega)) | refine gdR rfl rfl (fun _ => ?_) (fun _ => ?_))
      | (show retPost _ _ _ _ _; first | refine finF true rfl rfl sc ?_ | refine finF false rfl rfl sc ?_ | refine finC false rfl rfl sc sc ?_ | refine finN rfl rfl sc ?_ | refine finL true rfl rfl sc rfl (LeR.cons rfl leL LeR.nil) ?_ | refine finE true rfl rfl sc ?_ | refine finE false rfl rfl sc ?_))
    · refine divz (q := (q:Int)) (r := (r:Int)) ?_ ?_ ?_
      · rw [e2, f2]; (try simp only [Int.neg_mul, Int.mul_neg, Int.neg_neg, Int.mul_add, Int.mul_one, Int.natCast_add, Int.natCast_one]); omega
      · omega
      · omega
  · simp only [Bool.false_eq_true, if_true, if_false] at e2 f2
    refine ret_of_awp tab Tryz.func81 rfl rfl (Nat.le_of_ble_eq_true rfl) (fun w0 F0 => ?_)
    repeat' (first
      | (show awpL _ _ _ _ _; first | refine goL ?_ | refine cl 78 tt rfl rfl rfl (hr := ta) (k := ?_) | refine cl 78 tt rfl rfl rfl (hr := tb) (k := ?_) | refine cl 124 tt rfl rfl rfl (hr := hd) (k := ?_) | refine cl 87 tt rfl rfl rfl (hr := ha) (k := ?_) | refine cl 125 tt rfl rfl rfl (hr := hs) (k := ?_) | refine cl 86 tt rfl rfl rfl (hr := ref02_signed _ _ (by omega)) (k := ?_) | (refine gdLD rfl rfl (fun _ => ?_) (fun _ => ?_) <;> try (exfalso; omega)) | (refine gdLN rfl rfl (fun _ => ?_) (fun _ => ?_) <;> try (exfalso; omega)) | refine gdL rfl rfl (fun _ => ?_) (fun _ => ?_))
      | (show awp _ _ _ _; first | refine goA ?_ | refine awp_reg 1 3 mixed (by kernel_rfl) (by kernel_rfl) ?_ | (refine awp_condD rfl (fun _ => ?_) (fun _ => ?_) <;> try (exfalso; omega)) | (refine awp_condN rfl (fun _ => ?_) (fun _ => ?_) <;> try (exfalso; omega)) | refine awp_cond rfl (fun _ => ?_) (fun _ => ?_))
      | (show andThen _ _ _ _; first | refine goN ?_)
      | (show inBlock _ _ _ _; first | refine goB ?_)
      | (show awpR _ _ _ _ _ _; first | refine goR ?_ | refine clR 78 tt rfl rfl rfl (hr := ta) (k := ?_) | refine clR 78 tt rfl rfl rfl (hr := tb) (k := ?_) | refine clR 124 tt rfl rfl rfl (hr := hd) (k := ?_) | refine clR 87 tt rfl rfl rfl (hr := ha) (k := ?_) | refine clR 125 tt rfl rfl rfl (hr := hs) (k := ?_) | refine clR 86 tt rfl rfl rfl (hr := ref02_signed _ _ (by omega)) (k := ?_) | (refine gdRD rfl rfl (fun _ => ?_) (fun _ => ?_) <;> try (exfalso; omega)) | (refine gdRN rfl rfl (fun _ => ?_) (fun _ => ?_) <;> try (exfalso; omega)) | refine gdR rfl rfl (fun _ => ?_) (fun _ => ?_))
      | (show retPost _ _ _ _ _; first | refine finF true rfl rfl sc ?_ | refine finF false rfl rfl sc ?_ | refine finC false rfl rfl sc sc ?_ | refine finN rfl rfl sc ?_ | refine finL true rfl rfl sc rfl (LeR.cons rfl leL LeR.nil) ?_ | refine finE true rfl rfl sc ?_ | refine finE false rfl rfl sc ?_))
    · refine divz (q := -(q:Int)) (r := (r:Int)) ?_ ?_ ?_
      · rw [e2, f2]; (try simp only [Int.neg_mul, Int.mul_neg, Int.neg_neg, Int.mul_add, Int.mul_one, Int.natCast_add, Int.natCast_one]); omega
      · omega
      · omega
  · simp only [Bool.false_eq_true, if_true, if_false] at e2 f2
    refine ret_of_awp tab Tryz.func81 rfl rfl (Nat.le_of_ble_eq_true rfl) (fun w0 F0 => ?_)
    repeat' (first
      | (show awpL _ _ _ _ _; first | refine goL ?_ | refine cl 78 tt rfl rfl rfl (hr := ta) (k := ?_) | refine cl 78 tt rfl rfl rfl (hr := tb) (k := ?_) | refine cl 124 tt rfl rfl rfl (hr := hd) (k := ?_) | refine cl 87 tt rfl rfl rfl (hr := ha) (k := ?_) | refine cl 125 tt rfl rfl rfl (hr := hs) (k := ?_) | refine cl 86 tt rfl rfl rfl (hr := ref02_signed _ _ (by omega)) (k := ?_) | (refine gdLD rfl rfl (fun _ => ?_) (fun _ => ?_) <;> try (exfalso; omega)) | (refine gdLN rfl rfl (fun _ => ?_) (fun _ => ?_) <;> try (exfalso; omega)) | refine gdL rfl rfl (fun _ => ?_) (fun _ => ?_))
      | (show awp _ _ _ _; first | refine goA ?_ | refine awp_reg 1 3 mixed (by kernel_rfl) (by kernel_rfl) ?_ | (refine awp_condD rfl (fun _ => ?_) (fun _ => ?_) <;> try (exfalso; omega)) | (refine awp_condN rfl (fun _ => ?_) (fun _ => ?_) <;> try (exfalso; omega)) | refine awp_cond rfl (fun _ => ?_) (fun _ => ?_))
      | (show andThen _ _ _ _; first | refine goN ?_)
      | (show inBlock _ _ _ _; first | refine goB ?_)
      | (show awpR _ _ _ _ _ _; first | refine goR ?_ | refine clR 78 tt rfl rfl rfl (hr := ta) (k := ?_) | refine clR 78 tt rfl rfl rfl (hr := tb) (k := ?_) | refine clR 124 tt rfl rfl rfl (hr := hd) (k := ?_) | refine clR 87 tt rfl rfl rfl (hr := ha) (k := ?_) | refine clR 125 tt rfl rfl rfl (hr := hs) (k := ?_) | refine clR 86 tt rfl rfl rfl (hr := ref02_signed _ _ (by omega)) (k := ?_) | (refine gdRD rfl rfl (fun _ => ?_) (fun _ => ?_) <;> try (exfalso; omega)) | (refine gdRN rfl rfl (fun _ => ?_) (fun _ => ?_) <;> try (exfalso; omega)) | refine gdR rfl rfl (fun _ => ?_) (fun _ => ?_))
      | (show retPost _ _ _ _ _; first | refine finF true rfl rfl sc ?_ | refine finF false rfl rfl sc ?_ | refine finC false rfl rfl sc sc ?_ | refine finN rfl rfl sc ?_ | refine finL true rfl rfl sc rfl (LeR.cons rfl leL LeR.nil) ?_ | refine finE true rfl rfl sc ?_ | refine finE false rfl rfl sc ?_))
    · rename_i hc
      refine divz (q := -((q+1:Nat):Int)) (r := ((b-r:Nat):Int)) ?_ ?_ ?_
      · rw [e2, f2]; (try simp only [Int.neg_mul, Int.mul_neg, Int.neg_neg, Int.mul_add, Int.mul_one, Int.natCast_add, Int.natCast_one]); omega
      · omega
      · omega
    · rename_i hc
      have hc0 : r = 0 := hz.1 (by omega)
      refine divz (q := -(q:Int)) (r := (r:Int)) ?_ ?_ ?_
      · rw [e2, f2]; (try simp only [Int.neg_mul, Int.mul_neg, Int.neg_neg, Int.mul_add, Int.mul_one, Int.natCast_add, Int.natCast_one]); omega
      · omega
      · omega
  · simp only [Bool.false_eq_true, if_true, if_false] at e2 f2
    refine ret_of_awp tab Tryz.func81 rfl rfl (Nat.le_of_ble_eq_true rfl) (fun w0 F0 => ?_)
    repeat' (first
      | (show awpL _ _ _ _ _; first | refine goL ?_ | refine cl 78 tt rfl rfl rfl (hr := ta) (k := ?_) | refine cl 78 tt rfl rfl rfl (hr := tb) (k := ?_) | refine cl 124 tt rfl rfl rfl (hr := hd) (k := ?_) | refine cl 87 tt rfl rfl rfl (hr := ha) (k := ?_) | refine cl 125 tt rfl rfl rfl (hr := hs) (k := ?_) | refine cl 86 tt rfl rfl rfl (hr := ref02_signed _ _ (by omega)) (k := ?_) | (refine gdLD rfl rfl (fun _ => ?_) (fun _ => ?_) <;> try (exfalso; omega)) | (refine gdLN rfl rfl (fun _ => ?_) (fun _ => ?_) <;> try (exfalso; omega)) | refine gdL rfl rfl (fun _ => ?_) (fun _ => ?_))
      | (show awp _ _ _ _; first | refine goA ?_ | refine awp_reg 1 3 mixed (by kernel_rfl) (by kernel_rfl) ?_ | (refine awp_condD rfl (fun _ => ?_) (fun _ => ?_) <;> try (exfalso; omega)) | (refine awp_condN rfl (fun _ => ?_) (fun _ => ?_) <;> try (exfalso; omega)) | refine awp_cond rfl (fun _ => ?_) (fun _ => ?_))
      | (show andThen _ _ _ _; first | refine goN ?_)
      | (show inBlock _ _ _ _; first | refine goB ?_)
      | (show awpR _ _ _ _ _ _; first | refine goR ?_ | refine clR 78 tt rfl rfl rfl (hr := ta) (k := ?_) | refine clR 78 tt rfl rfl rfl (hr := tb) (k := ?_) | refine clR 124 tt rfl rfl rfl (hr := hd) (k := ?_) | refine clR 87 tt rfl rfl rfl (hr := ha) (k := ?_) | refine clR 125 tt rfl rfl rfl (hr := hs) (k := ?_) | refine clR 86 tt rfl rfl rfl (hr := ref02_signed _ _ (by omega)) (k := ?_) | (refine gdRD rfl rfl (fun _ => ?_) (fun _ => ?_) <;> try (exfalso; omega)) | (refine gdRN rfl rfl (fun _ => ?_) (fun _ => ?_) <;> try (exfalso; omega)) | refine gdR rfl rfl (fun _ => ?_) (fun _ => ?_))
      | (show retPost _ _ _ _ _; first | refine finF true rfl rfl sc ?_ | refine finF false rfl rfl sc ?_ | refine finC false rfl rfl sc sc ?_ | refine finN rfl rfl sc ?_ | refine finL true rfl rfl sc rfl (LeR.cons rfl leL LeR.nil) ?_ | refine finE true rfl rfl sc ?_ | refine finE false rfl rfl sc ?_))
    · rename_i hc
      refine divz (q := ((q+1:Nat):Int)) (r := ((b-r:Nat):Int)) ?_ ?_ ?_
      · rw [e2, f2]; (try simp only [Int.neg_mul, Int.mul_neg, Int.neg_neg, Int.mul_add, Int.mul_one, Int.natCast_add, Int.natCast_one]); omega
      · omega
      · omega
    · rename_i hc
      have hc0 : r = 0 := hz.1 (by omega)
      refine divz (q := (q:Int)) (r := (r:Int)) ?_ ?_ ?_
      · rw [e2, f2]; (try simp only [Int.neg_mul, Int.mul_neg, Int.neg_neg, Int.mul_add, Int.mul_one, Int.natCast_add, Int.natCast_one]); omega
      · omega
      · omega

end Go.Proofs.YtoppaphffnojdaaGreat

/-
  Rational numbers as the program holds them; rows, tables, strings. Conditions: none.
-/
namespace Go.Vw

/-- The fields of a rational number: sign, numerator, denominator. -/
abbrev R3 := Bool × List Nat × List Nat
@[reducible] def rC (r : R3) : List D := [.bool r.1, u32s r.2.1, u32s r.2.2]
@[reducible] def rD (r : R3) : D := .agg (rC r)
/-- The zero number. -/
@[reducible] def r0 : R3 := (false, [], [])
@[reducible] def rsD (l : List R3) : D := .sl 3 rC r0 l
@[reducible] def eR (l : List R3) : List D := [rsD l]
@[reducible] def rssD (l : List (List R3)) : D := .sl 1 eR [] l
@[reducible] def eS (b : List UInt8) : List D := [.str b]
/-- A row of strings. -/
@[reducible] def strsD (l : List (List UInt8)) : D := .sl 1 eS [] l

/-- A whole number. -/
def zR (z : Int) : R3 := (decide (z < 0), limbs z.natAbs, [])
theorem take_ext {α : Type} {a b : List α} {i : Nat} (z : α) (h : a.take i = b.take i) (h1 : i < a.length) (h2 : i < b.length) (e : a.getD i z = b.getD i z) : a.take (i + 1) = b.take (i + 1) := by
  rw [List.take_add_one, List.take_add_one, h]
  simp [List.getD, h1, h2] at e
  simp [h1, h2, e]
end Go.Vw

set_option linter.unusedVariables false
set_option linter.unusedSimpArgs false
namespace Go.Proofs.YtoppaphffnojdaaGreat
open Go.Vw
attribute [local irreducible] awp awpL awpR

theorem ref03_FromInt (v : Int) (h1 : -9223372036854775808 ≤ v) (h2 : v < 9223372036854775808) : Ret Tryz.prog 17 [.int .i64 v] (· = rD (zR v)) := by
  refine ret_of_awp tab Tryz.func17 rfl rfl (Nat.le_of_ble_eq_true rfl) (fun w0 F0 => ?_)
  repeat' (first
    | (show awpL _ _ _ _ _; first | refine goL ?_ | refine cl 44 tt rfl rfl rfl (hr := ref02_FromInt v h1 h2) (k := ?_) | (refine gdLD rfl rfl (fun _ => ?_) (fun _ => ?_) <;> try (exfalso; omega)) | (refine gdLN rfl rfl (fun _ => ?_) (fun _ => ?_) <;> try (exfalso; omega)) | refine gdL rfl rfl (fun _ => ?_) (fun _ => ?_))
    | (show awp _ _ _ _; first | refine goA ?_ | (refine awp_condD rfl (fun _ => ?_) (fun _ => ?_) <;> try (exfalso; omega)) | (refine awp_condN rfl (fun _ => ?_) (fun _ => ?_) <;> try (exfalso; omega)) | refine awp_cond rfl (fun _ => ?_) (fun _ => ?_))
    | (show andThen _ _ _ _; first | refine goN ?_)
    | (show inBlock _ _ _ _; first | refine goB ?_)
    | (show awpR _ _ _ _ _ _; first | refine goR ?_ | refine clR 44 tt rfl rfl rfl (hr := ref02_FromInt v h1 h2) (k := ?_) | (refine gdRD rfl rfl (fun _ => ?_) (fun _ => ?_) <;> try (exfalso; omega)) | (refine gdRN rfl rfl (fun _ => ?_) (fun _ => ?_) <;> try (exfalso; omega)) | refine gdR rfl rfl (fun _ => ?_) (fun _ => ?_))
    | (show retPost _ _ _ _ _; first | refine finF true rfl rfl sc ?_ | refine finF false rfl rfl sc ?_ | refine finC false rfl rfl sc sc ?_ | refine finN rfl rfl sc ?_ | refine finL true rfl rfl sc rfl (LeR.cons rfl leL LeR.nil) ?_ | refine finA true rfl rfl sc ?_ | refine finA false rfl rfl sc ?_ | refine finE true rfl rfl sc ?_ | refine finE false rfl rfl sc ?_))
  exact leL

/-- The lists of a number have bounded length. -/
def okR (k : Nat) (r : R3) : Prop := r.2.1.length < k ∧ r.2.2.length < k

end Go.Proofs.YtoppaphffnojdaaGreat

set_option linter.unusedVariables false
set_option linter.unusedSimpArgs false
namespace Go.Proofs.YtoppaphffnojdaaGreat
open Go.Vw
attribute [local irreducible] awp awpL awpR

theorem natural_trimmed (l : List Nat) (hl : l.length < 1000000000000) : Ret Tryz.prog 119 [u32s l] (· = u32s (trimL l)) := by
  refine ret_of_awp tab Tryz.func119 rfl rfl (Nat.le_of_ble_eq_true rfl) (fun w0 F0 => ?_)
  repeat' (first
    | (show awpL _ _ _ _ _; first | refine goL ?_ | (refine gdLD rfl rfl (fun _ => ?_) (fun _ => ?_) <;> try (exfalso; omega)) | (refine gdLN rfl rfl (fun _ => ?_) (fun _ => ?_) <;> try (exfalso; omega)) | refine gdL rfl rfl (fun _ => ?_) (fun _ => ?_))
    | (show awp _ _ _ _; first | refine goA ?_ | (refine awp_condD rfl (fun _ => ?_) (fun _ => ?_) <;> try (exfalso; omega)) | (refine awp_condN rfl (fun _ => ?_) (fun _ => ?_) <;> try (exfalso; omega)) | refine awp_cond rfl (fun _ => ?_) (fun _ => ?_))
    | (show andThen _ _ _ _; first | refine goN ?_)
    | (show inBlock _ _ _ _; first | refine goB ?_)
    | (show awpR _ _ _ _ _ _; first | refine goR ?_ | (refine gdRD rfl rfl (fun _ => ?_) (fun _ => ?_) <;> try (exfalso; omega)) | (refine gdRN rfl rfl (fun _ => ?_) (fun _ => ?_) <;> try (exfalso; omega)) | refine gdR rfl rfl (fun _ => ?_) (fun _ => ?_))
    | (show retPost _ _ _ _ _; first | refine finF true rfl rfl sc ?_ | refine finF false rfl rfl sc ?_ | refine finC false rfl rfl sc sc ?_ | refine finN rfl rfl sc ?_ | refine finL true rfl rfl sc rfl (LeR.cons rfl leL LeR.nil) ?_ | refine finE true rfl rfl sc ?_ | refine finE false rfl rfl sc ?_))
  refine awp_loop1 (fun n : Nat => ([(0, .d (u32s l)), (3, .d (.int .i64 n))], [])) (fun n => n ≤ l.length ∧ trimL (l.take n) = trimL l) (fun n => n) l.length ⟨by omega, by simp⟩ ⟨rfl, rfl, rfl⟩ trivial (fun n hi => ?_)
  obtain ⟨h1, h2⟩ := hi
  have e : 0 < n → (l.take n).getD ((l.take n).length - 1) 0 = l.getD (n - 1) 0 := fun hn => by
    simp [List.getD, List.length_take, Nat.min_eq_left h1, List.getElem?_take, show n - 1 < n by omega, List.getElem?_eq_getElem (show n - 1 < l.length by omega)]
  have hlen : (l.take n).length = n := by simp; omega
  repeat' (first
    | (show awpL _ _ _ _ _; first | refine goL ?_ | (refine gdLD rfl rfl (fun _ => ?_) (fun _ => ?_) <;> try (exfalso; omega)) | (refine gdLN rfl rfl (fun _ => ?_) (fun _ => ?_) <;> try (exfalso; omega)) | refine gdL rfl rfl (fun _ => ?_) (fun _ => ?_))
    | (show awp _ _ _ _; first | refine goA ?_ | (refine awp_condD rfl (fun _ => ?_) (fun _ => ?_) <;> try (exfalso; omega)) | (refine awp_condN rfl (fun _ => ?_) (fun _ => ?_) <;> try (exfalso; omega)) | refine awp_cond rfl (fun _ => ?_) (fun _ => ?_))
    | (show andThen _ _ _ _; first | refine goN ?_)
    | (show inBlock _ _ _ _; first | refine goB ?_)
    | (show awpR _ _ _ _ _ _; first | refine goR ?_ | (refine gdRD rfl rfl (fun _ => ?_) (fun _ => ?_) <;> try (exfalso; omega)) | (refine gdRN rfl rfl (fun _ => ?_) (fun _ => ?_) <;> try (exfalso; omega)) | refine gdR rfl rfl (fun _ => ?_) (fun _ => ?_))
    | (show retPost _ _ _ _ _; first | refine finF true rfl rfl sc ?_ | refine finF false rfl rfl sc ?_ | refine finC false rfl rfl sc sc ?_ | refine finN rfl rfl sc ?_ | refine finL true rfl rfl sc rfl (LeR.cons rfl leL LeR.nil) ?_ | refine finE true rfl rfl sc ?_ | refine finE false rfl rfl sc ?_))
  · rename_i h3 h4
    refine ⟨n - 1, ⟨by omega, ?_⟩, by omega, ⟨rfl, iv (by omega), rfl⟩, trivial⟩
    rw [← h2, ← trimL_last (m := l.take n) (by omega) (by rw [e (by omega), ← show ((n : Int) - 1).toNat = n - 1 by omega]; omega), hlen, List.take_take, Nat.min_eq_left (by omega)]
  · rename_i h3 h4
    rw [← h2, trimL_done (by rw [e (by omega), ← show ((n : Int) - 1).toNat = n - 1 by omega]; omega)]
  · rename_i h3
    have : n = 0 := by omega
    subst this
    rw [← h2]; rfl
theorem natural_FromUint (i : Int) (v : Nat) (e : i = v) (h : v < 18446744073709551616) : Ret Tryz.prog 120 [.int .u64 i] (· = u32s (limbs v)) := by
  subst e
  have ht := natural_trimmed [v % 4294967296, v / 4294967296] (by simp)
  rw [two_limbs v h] at ht
  refine ret_of_awp tab Tryz.func120 rfl rfl (Nat.le_of_ble_eq_true rfl) (fun w0 F0 => ?_)
  repeat' (first
    | (show awpL _ _ _ _ _; first | refine goL ?_ | refine cl 119 tt rfl rfl rfl (hr := ht) (k := ?_) | (refine gdLD rfl rfl (fun _ => ?_) (fun _ => ?_) <;> try (exfalso; omega)) | (refine gdLN rfl rfl (fun _ => ?_) (fun _ => ?_) <;> try (exfalso; omega)) | refine gdL rfl rfl (fun _ => ?_) (fun _ => ?_))
    | (show awp _ _ _ _; first | refine goA ?_ | (refine awp_condD rfl (fun _ => ?_) (fun _ => ?_) <;> try (exfalso; omega)) | (refine awp_condN rfl (fun _ => ?_) (fun _ => ?_) <;> try (exfalso; omega)) | refine awp_cond rfl (fun _ => ?_) (fun _ => ?_))
    | (show andThen _ _ _ _; first | refine goN ?_)
    | (show inBlock _ _ _ _; first | refine goB ?_)
    | (show awpR _ _ _ _ _ _; first | refine goR ?_ | refine clR 119 tt rfl rfl rfl (hr := ht) (k := ?_) | (refine gdRD rfl rfl (fun _ => ?_) (fun _ => ?_) <;> try (exfalso; omega)) | (refine gdRN rfl rfl (fun _ => ?_) (fun _ => ?_) <;> try (exfalso; omega)) | refine gdR rfl rfl (fun _ => ?_) (fun _ => ?_))
    | (show retPost _ _ _ _ _; first | refine finF true rfl rfl sc ?_ | refine finF false rfl rfl sc ?_ | refine finC false rfl rfl sc sc ?_ | refine finN rfl rfl sc ?_ | refine finL true rfl rfl sc rfl (LeR.cons rfl leL LeR.nil) ?_ | refine finE true rfl rfl sc ?_ | refine finE false rfl rfl sc ?_))
  rfl
theorem integer_signed (neg : Bool) (n : Nat) (hl : (limbs n).length < 100000000000) : Ret Tryz.prog 115 [.bool neg, u32s (limbs n)] (· = zD (if neg then -(n : Int) else n)) := by
  rw [← signed_z]
  cases neg with
  | false => 
    refine ret_of_awp tab Tryz.func115 rfl rfl (Nat.le_of_ble_eq_true rfl) (fun w0 F0 => ?_)
    repeat' (first
      | (show awpL _ _ _ _ _; first | refine goL ?_ | (refine gdLD rfl rfl (fun _ => ?_) (fun _ => ?_) <;> try (exfalso; omega)) | (refine gdLN rfl rfl (fun _ => ?_) (fun _ => ?_) <;> try (exfalso; omega)) | refine gdL rfl rfl (fun _ => ?_) (fun _ => ?_))
      | (show awp _ _ _ _; first | refine goA ?_ | (refine awp_condD rfl (fun _ => ?_) (fun _ => ?_) <;> try (exfalso; omega)) | (refine awp_condN rfl (fun _ => ?_) (fun _ => ?_) <;> try (exfalso; omega)) | refine awp_cond rfl (fun _ => ?_) (fun _ => ?_))
      | (show andThen _ _ _ _; first | refine goN ?_)
      | (show inBlock _ _ _ _; first | refine goB ?_)
      | (show awpR _ _ _ _ _ _; first | refine goR ?_ | (refine gdRD rfl rfl (fun _ => ?_) (fun _ => ?_) <;> try (exfalso; omega)) | (refine gdRN rfl rfl (fun _ => ?_) (fun _ => ?_) <;> try (exfalso; omega)) | refine gdR rfl rfl (fun _ => ?_) (fun _ => ?_))
      | (show retPost _ _ _ _ _; first | refine finF true rfl rfl sc ?_ | refine finF false rfl rfl sc ?_ | refine finC false rfl rfl sc sc ?_ | refine finN rfl rfl sc ?_ | refine finL true rfl rfl sc rfl (LeR.cons rfl leL LeR.nil) ?_ | refine finE true rfl rfl sc ?_ | refine finE false rfl rfl sc ?_))
    rfl
  | true =>
    refine ret_of_awp tab Tryz.func115 rfl rfl (Nat.le_of_ble_eq_true rfl) (fun w0 F0 => ?_)
    repeat' (first
      | (show awpL _ _ _ _ _; first | refine goL ?_ | (refine gdLD rfl rfl (fun _ => ?_) (fun _ => ?_) <;> try (exfalso; omega)) | (refine gdLN rfl rfl (fun _ => ?_) (fun _ => ?_) <;> try (exfalso; omega)) | refine gdL rfl rfl (fun _ => ?_) (fun _ => ?_))
      | (show awp _ _ _ _; first | refine goA ?_ | (refine awp_condD rfl (fun _ => ?_) (fun _ => ?_) <;> try (exfalso; omega)) | (refine awp_condN rfl (fun _ => ?_) (fun _ => ?_) <;> try (exfalso; omega)) | refine awp_cond rfl (fun _ => ?_) (fun _ => ?_))
      | (show andThen _ _ _ _; first | refine goN ?_)
      | (show inBlock _ _ _ _; first | refine goB ?_)
      | (show awpR _ _ _ _ _ _; first | refine goR ?_ | (refine gdRD rfl rfl (fun _ => ?_) (fun _ => ?_) <;> try (exfalso; omega)) | (refine gdRN rfl rfl (fun _ => ?_) (fun _ => ?_) <;> try (exfalso; omega)) | refine gdR rfl rfl (fun _ => ?_) (fun _ => ?_))
      | (show retPost _ _ _ _ _; first | refine finF true rfl rfl sc ?_ | refine finF false rfl rfl sc ?_ | refine finC false rfl rfl sc sc ?_ | refine finN rfl rfl sc ?_ | refine finL true rfl rfl sc rfl (LeR.cons rfl leL LeR.nil) ?_ | refine finE true rfl rfl sc ?_ | refine finE false rfl rfl sc ?_))
    simp; rfl
theorem integer_FromInt (v : Int) (h1 : -9223372036854775808 ≤ v) (h2 : v < 9223372036854775808) : Ret Tryz.prog 77 [.int .i64 v] (· = zD v) := by
  by_cases h : v < 0
  · have l1 := u64_len (v := v.natAbs) (by omega)
    refine ret_of_awp tab Tryz.func77 rfl rfl (Nat.le_of_ble_eq_true rfl) (fun w0 F0 => ?_)
    repeat' (first
      | (show awpL _ _ _ _ _; first | refine goL ?_ | refine cl 120 tt rfl rfl rfl (hr := natural_FromUint _ v.natAbs (by omega) (by omega)) (k := ?_) | refine cl 115 tt rfl rfl rfl (hr := integer_signed true _ (by omega)) (k := ?_) | (refine gdLD rfl rfl (fun _ => ?_) (fun _ => ?_) <;> try (exfalso; omega)) | (refine gdLN rfl rfl (fun _ => ?_) (fun _ => ?_) <;> try (exfalso; omega)) | refine gdL rfl rfl (fun _ => ?_) (fun _ => ?_))
      | (show awp _ _ _ _; first | refine goA ?_ | (refine awp_condD rfl (fun _ => ?_) (fun _ => ?_) <;> try (exfalso; omega)) | (refine awp_condN rfl (fun _ => ?_) (fun _ => ?_) <;> try (exfalso; omega)) | refine awp_cond rfl (fun _ => ?_) (fun _ => ?_))
      | (show andThen _ _ _ _; first | refine goN ?_)
      | (show inBlock _ _ _ _; first | refine goB ?_)
      | (show awpR _ _ _ _ _ _; first | refine goR ?_ | refine clR 120 tt rfl rfl rfl (hr := natural_FromUint _ v.natAbs (by omega) (by omega)) (k := ?_) | refine clR 115 tt rfl rfl rfl (hr := integer_signed true _ (by omega)) (k := ?_) | (refine gdRD rfl rfl (fun _ => ?_) (fun _ => ?_) <;> try (exfalso; omega)) | (refine gdRN rfl rfl (fun _ => ?_) (fun _ => ?_) <;> try (exfalso; omega)) | refine gdR rfl rfl (fun _ => ?_) (fun _ => ?_))
      | (show retPost _ _ _ _ _; first | refine finF true rfl rfl sc ?_ | refine finF false rfl rfl sc ?_ | refine finC false rfl rfl sc sc ?_ | refine finN rfl rfl sc ?_ | refine finL true rfl rfl sc rfl (LeR.cons rfl leL LeR.nil) ?_ | refine finE true rfl rfl sc ?_ | refine finE false rfl rfl sc ?_))
    refine congrArg zD ?_
    simp only [if_true]; omega
  · have l1 := u64_len (v := v.natAbs) (by omega)
    refine ret_of_awp tab Tryz.func77 rfl rfl (Nat.le_of_ble_eq_true rfl) (fun w0 F0 => ?_)
    repeat' (first
      | (show awpL _ _ _ _ _; first | refine goL ?_ | refine cl 120 tt rfl rfl rfl (hr := natural_FromUint _ v.natAbs (by omega) (by omega)) (k := ?_) | refine cl 115 tt rfl rfl rfl (hr := integer_signed false _ (by omega)) (k := ?_) | (refine gdLD rfl rfl (fun _ => ?_) (fun _ => ?_) <;> try (exfalso; omega)) | (refine gdLN rfl rfl (fun _ => ?_) (fun _ => ?_) <;> try (exfalso; omega)) | refine gdL rfl rfl (fun _ => ?_) (fun _ => ?_))
      | (show awp _ _ _ _; first | refine goA ?_ | (refine awp_condD rfl (fun _ => ?_) (fun _ => ?_) <;> try (exfalso; omega)) | (refine awp_condN rfl (fun _ => ?_) (fun _ => ?_) <;> try (exfalso; omega)) | refine awp_cond rfl (fun _ => ?_) (fun _ => ?_))
      | (show andThen _ _ _ _; first | refine goN ?_)
      | (show inBlock _ _ _ _; first | refine goB ?_)
      | (show awpR _ _ _ _ _ _; first | refine goR ?_ | refine clR 120 tt rfl rfl rfl (hr := natural_FromUint _ v.natAbs (by omega) (by omega)) (k := ?_) | refine clR 115 tt rfl rfl rfl (hr := integer_signed false _ (by omega)) (k := ?_) | (refine gdRD rfl rfl (fun _ => ?_) (fun _ => ?_) <;> try (exfalso; omega)) | (refine gdRN rfl rfl (fun _ => ?_) (fun _ => ?_) <;> try (exfalso; omega)) | refine gdR rfl rfl (fun _ => ?_) (fun _ => ?_))
      | (show retPost _ _ _ _ _; first | refine finF true rfl rfl sc ?_ | refine finF false rfl rfl sc ?_ | refine finC false rfl rfl sc sc ?_ | refine finN rfl rfl sc ?_ | refine finL true rfl rfl sc rfl (LeR.cons rfl leL LeR.nil) ?_ | refine finE true rfl rfl sc ?_ | refine finE false rfl rfl sc ?_))
    refine congrArg zD ?_
    simp only [Bool.false_eq_true, if_false]; omega
theorem rational_FromInt (v : Int) (h1 : -9223372036854775808 ≤ v) (h2 : v < 9223372036854775808) : Ret Tryz.prog 37 [.int .i64 v] (· = rD (zR v)) := by
  refine ret_of_awp tab Tryz.func37 rfl rfl (Nat.le_of_ble_eq_true rfl) (fun w0 F0 => ?_)
  repeat' (first
    | (show awpL _ _ _ _ _; first | refine goL ?_ | refine cl 77 tt rfl rfl rfl (hr := integer_FromInt v h1 h2) (k := ?_) | (refine gdLD rfl rfl (fun _ => ?_) (fun _ => ?_) <;> try (exfalso; omega)) | (refine gdLN rfl rfl (fun _ => ?_) (fun _ => ?_) <;> try (exfalso; omega)) | refine gdL rfl rfl (fun _ => ?_) (fun _ => ?_))
    | (show awp _ _ _ _; first | refine goA ?_ | (refine awp_condD rfl (fun _ => ?_) (fun _ => ?_) <;> try (exfalso; omega)) | (refine awp_condN rfl (fun _ => ?_) (fun _ => ?_) <;> try (exfalso; omega)) | refine awp_cond rfl (fun _ => ?_) (fun _ => ?_))
    | (show andThen _ _ _ _; first | refine goN ?_)
    | (show inBlock _ _ _ _; first | refine goB ?_)
    | (show awpR _ _ _ _ _ _; first | refine goR ?_ | refine clR 77 tt rfl rfl rfl (hr := integer_FromInt v h1 h2) (k := ?_) | (refine gdRD rfl rfl (fun _ => ?_) (fun _ => ?_) <;> try (exfalso; omega)) | (refine gdRN rfl rfl (fun _ => ?_) (fun _ => ?_) <;> try (exfalso; omega)) | refine gdR rfl rfl (fun _ => ?_) (fun _ => ?_))
    | (show retPost _ _ _ _ _; first | refine finF true rfl rfl sc ?_ | refine finF false rfl rfl sc ?_ | refine finC false rfl rfl sc sc ?_ | refine finN rfl rfl sc ?_ | refine finL true rfl rfl sc rfl (LeR.cons rfl leL LeR.nil) ?_ | refine finA true rfl rfl sc ?_ | refine finA false rfl rfl sc ?_ | refine finE true rfl rfl sc ?_ | refine finE false rfl rfl sc ?_))
  exact leL
end Go.Proofs.YtoppaphffnojdaaGreat
