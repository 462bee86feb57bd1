/-
  Contracts of functions of the program, walked with the abstract layer. Conditions: as each says.
-/
import Derived.Test.YtcblkjmnigbiiaaDoorR01
import Derived.Test.YtcblkjmnigbiiaaDoorLimbsC
set_option linter.unusedVariables false
set_option linter.unusedSimpArgs false
namespace Go.Proofs.YtcblkjmnigbiiaaDoor
open Go.Vw
attribute [local irreducible] awp awpL awpR

theorem sub_step {a b l : List Nat} {c x y : Nat} (ha : WF a) (hb : WF b) (hl : WF l) (hc : c ≤ 1) (hv : val l + val (b.take l.length) = val (a.take l.length) + c * B ^ l.length) (hx : x = (a.getD l.length 0 + 4294967296 - b.getD l.length 0 - c) % 4294967296) (hy : y = 1 - (a.getD l.length 0 + 4294967296 - b.getD l.length 0 - c) / 4294967296) :
    WF (l ++ [x]) ∧ y ≤ 1 ∧ val (l ++ [x]) + val (b.take (l ++ [x]).length) = val (a.take (l ++ [x]).length) + y * B ^ (l ++ [x]).length := by
  have h1 := ha.getD l.length
  have h2 := hb.getD l.length
  simp only [B_val] at h1 h2
  refine ⟨hl.snoc (by rw [B_val]; omega), by omega, ?_⟩
  rw [val_snoc, List.length_append, List.length_singleton, val_take_succ, val_take_succ, Nat.pow_succ]
  have h3 : x + b.getD l.length 0 + c = a.getD l.length 0 + y * B := by rw [B_val]; omega
  have h4 : B ^ l.length * x + B ^ l.length * b.getD l.length 0 + c * B ^ l.length = B ^ l.length * a.getD l.length 0 + y * (B ^ l.length * B) := by
    rw [Nat.mul_comm c, ← Nat.mul_add, ← Nat.mul_add, h3, Nat.mul_add, Nat.mul_comm y B, Nat.mul_comm y, ← Nat.mul_assoc]
  omega

theorem ref01_Sub (a b : List Nat) (hla : a.length < 100000000000) (hlb : b.length < 100000000000) (wa : WF a) (wb : WF b) : Ret Tryd.prog 65 [u32s a, u32s b] (· = .tup [u32s (limbs (nv a - nv b)), .bool (decide (nv b ≤ nv a))]) := by
  have la := length_limbs_nv wa
  have lb := length_limbs_nv wb
  have ea := takeL_limbs wa
  have eb := takeL_limbs wb
  generalize nv a = m at *
  generalize nv b = n at *
  have wa' := wf_limbs m
  have wb' := wf_limbs n
  have va := val_limbs m
  have vb := val_limbs n
  have ta := ref01_Take a (by omega)
  have tb := ref01_Take b (by omega)
  rw [ea] at ta
  rw [eb] at tb
  have hcmp := ref01_compare m n (by omega) (by omega)
  have lc := @limbs_len_mono n m
  generalize limbs m = a' at *
  generalize limbs n = b' at *
  refine ret_of_awp tab Tryd.func65 rfl rfl (Nat.le_of_ble_eq_true rfl) (fun w0 F0 => ?_)
  repeat' (first
    | (show awpL _ _ _ _ _; first | refine goL ?_ | refine cl 51 tt rfl rfl rfl (hr := ta) (k := ?_) | refine cl 51 tt rfl rfl rfl (hr := tb) (k := ?_) | refine cl 81 tt rfl rfl rfl (hr := hcmp) (k := ?_) | (refine gdLD rfl rfl (fun _ => ?_) (fun _ => ?_) <;> try (exfalso; omega)) | (refine gdLN rfl rfl (fun _ => ?_) (fun _ => ?_) <;> try (exfalso; omega)) | refine gdL rfl rfl (fun _ => ?_) (fun _ => ?_))
    | (show awp _ _ _ _; first | refine goA ?_ | (refine awp_condD rfl (fun _ => ?_) (fun _ => ?_) <;> try (exfalso; omega)) | (refine awp_condN rfl (fun _ => ?_) (fun _ => ?_) <;> try (exfalso; omega)) | refine awp_cond rfl (fun _ => ?_) (fun _ => ?_))
    | (show andThen _ _ _ _; first | refine goN ?_)
    | (show inBlock _ _ _ _; first | refine goB ?_)
    | (show awpR _ _ _ _ _ _; first | refine goR ?_ | refine clR 51 tt rfl rfl rfl (hr := ta) (k := ?_) | refine clR 51 tt rfl rfl rfl (hr := tb) (k := ?_) | refine clR 81 tt rfl rfl rfl (hr := hcmp) (k := ?_) | (refine gdRD rfl rfl (fun _ => ?_) (fun _ => ?_) <;> try (exfalso; omega)) | (refine gdRN rfl rfl (fun _ => ?_) (fun _ => ?_) <;> try (exfalso; omega)) | refine gdR rfl rfl (fun _ => ?_) (fun _ => ?_))
    | (show retPost _ _ _ _ _; first | refine finF true rfl rfl sc ?_ | refine finF false rfl rfl sc ?_ | refine finN rfl rfl sc ?_ | refine finL true rfl rfl sc rfl (LeR.cons rfl leL LeR.nil) ?_ | refine finT true rfl rfl sc ?_ | refine finT false rfl rfl sc ?_ | refine finE true rfl rfl sc ?_ | refine finE false rfl rfl sc ?_))
  · rename_i h
    have h := (cmpN_neg m n).1 h
    rw [show m - n = 0 by omega, limbs_zero, decide_eq_false (show ¬ n ≤ m by omega)]
    exact leT
  rename_i h
  have h := mt (cmpN_neg m n).2 h
  have lc := lc (by omega)
  refine awp_adopt 6 38 75 1 (eN .u32) 0 rfl ?_
  refine awp_loop2 (fun (l : List Nat) (c : Nat) => ([(0, .d (u32s a')), (1, .d (u32s b')), (6, .own 38 0 l.length 75 1), (7, .d (.int .u64 c)), (8, .d (.int .i64 l.length))], [(38, .data 75 1 (eN .u32) 0 l)])) (fun l c => l.length ≤ a'.length ∧ WF l ∧ c ≤ 1 ∧ val l + val (b'.take l.length) = val (a'.take l.length) + c * B ^ l.length) (fun l c => a'.length - l.length) [] 0 ⟨by simp, WF.nil, by simp, by simp [val]⟩ ⟨rfl, rfl, rfl, rfl, rfl, rfl⟩ ⟨rfl, trivial⟩ (fun l c hi => ?_)
  obtain ⟨h1, h2, h3, h4⟩ := hi
  have g1 := wa'.getD l.length
  have g2 := wb'.getD l.length
  simp only [B_val] at g1 g2
  repeat' (first
    | (show awpL _ _ _ _ _; first | refine goL ?_ | refine cl 53 tt rfl rfl rfl (hr := ref01_limb _ _ _ (Int.toNat_natCast _) (by omega) wa' (by omega) (by omega)) (k := ?_) | refine cl 53 tt rfl rfl rfl (hr := ref01_limb _ _ _ (Int.toNat_natCast _) (by omega) wb' (by omega) (by omega)) (k := ?_) | refine cl 54 tt rfl rfl rfl (hr := ref01_trim _ (by omega)) (k := ?_) | (refine gdLD rfl rfl (fun _ => ?_) (fun _ => ?_) <;> try (exfalso; omega)) | (refine gdLN rfl rfl (fun _ => ?_) (fun _ => ?_) <;> try (exfalso; omega)) | refine gdL rfl rfl (fun _ => ?_) (fun _ => ?_))
    | (show awp _ _ _ _; first | refine goA ?_ | (refine awp_condD rfl (fun _ => ?_) (fun _ => ?_) <;> try (exfalso; omega)) | (refine awp_condN rfl (fun _ => ?_) (fun _ => ?_) <;> try (exfalso; omega)) | refine awp_cond rfl (fun _ => ?_) (fun _ => ?_))
    | (show andThen _ _ _ _; first | refine goN ?_)
    | (show inBlock _ _ _ _; first | refine goB ?_)
    | (show awpR _ _ _ _ _ _; first | refine goR ?_ | refine clR 53 tt rfl rfl rfl (hr := ref01_limb _ _ _ (Int.toNat_natCast _) (by omega) wa' (by omega) (by omega)) (k := ?_) | refine clR 53 tt rfl rfl rfl (hr := ref01_limb _ _ _ (Int.toNat_natCast _) (by omega) wb' (by omega) (by omega)) (k := ?_) | refine clR 54 tt rfl rfl rfl (hr := ref01_trim _ (by omega)) (k := ?_) | (refine gdRD rfl rfl (fun _ => ?_) (fun _ => ?_) <;> try (exfalso; omega)) | (refine gdRN rfl rfl (fun _ => ?_) (fun _ => ?_) <;> try (exfalso; omega)) | refine gdR rfl rfl (fun _ => ?_) (fun _ => ?_))
    | (show retPost _ _ _ _ _; first | refine finF true rfl rfl sc ?_ | refine finF false rfl rfl sc ?_ | refine finN rfl rfl sc ?_ | refine finL true rfl rfl sc rfl (LeR.cons rfl leL LeR.nil) ?_ | refine finT true rfl rfl sc ?_ | refine finT false rfl rfl sc ?_ | refine finE true rfl rfl sc ?_ | refine finE false rfl rfl sc ?_))
  · exact ⟨_, 1 - (a'.getD l.length 0 + 4294967296 - b'.getD l.length 0 - c) / 4294967296, ⟨by simp; omega, sub_step wa' wb' h2 h3 h4 (by omega) rfl⟩, by simp; omega, ⟨rfl, rfl, rfl, iv (by omega), iv (by simp), rfl⟩, rfl, trivial⟩
  · rename_i h5
    rw [val_take_all a' (by omega), val_take_all b' (by omega)] at h4
    have g3 := val_lt h2
    have g9 : c = 0 := by
      refine Nat.le_zero.1 (Nat.le_of_not_lt fun hc => ?_)
      have := Nat.mul_le_mul_right (B ^ l.length) (show 1 ≤ c from hc)
      omega
    subst g9
    rw [trimL_limbs h2, show val l = m - n by omega, decide_eq_true (show n ≤ m by omega)]
    exact leT

theorem times_step {a l : List Nat} {c s x y v by' i : Nat} (ha : WF a) (hl : WF l) (hc : c < B) (hvB : v < B) (hi : l.length = by' + i) (hv : val l + c * B ^ l.length = B ^ by' * (val (a.take i) * v)) (hs : s = a.getD i 0 * v + c) (hx : x = s % 4294967296) (hy : y = s / 4294967296) :
    WF (l ++ [x]) ∧ y < B ∧ val (l ++ [x]) + y * B ^ (l ++ [x]).length = B ^ by' * (val (a.take (i + 1)) * v) := by
  have h1 := ha.getD i
  have h0 : s < B * B := by
    have := Nat.mul_le_mul (Nat.le_sub_one_of_lt h1) (Nat.le_sub_one_of_lt hvB)
    rw [B_val] at *; omega
  refine ⟨hl.snoc (by rw [B_val]; omega), by rw [B_val] at *; omega, ?_⟩
  rw [val_snoc, List.length_append, List.length_singleton, val_take_succ, Nat.pow_succ]
  have h3 : x + y * B = s := by rw [B_val]; omega
  have h4 : B ^ l.length * x + y * (B ^ l.length * B) = B ^ l.length * s := by
    rw [← h3, Nat.mul_add, Nat.mul_comm y B, Nat.mul_comm y, Nat.mul_assoc]
  rw [Nat.add_assoc, h4, hs, Nat.mul_add, Nat.add_mul, Nat.mul_add, ← hv, hi, Nat.pow_add]
  have : B ^ by' * (B ^ i * a.getD i 0 * v) = B ^ by' * B ^ i * (a.getD i 0 * v) := by
    simp only [Nat.mul_assoc]
  rw [this, Nat.mul_comm c]; omega

theorem val_rep (n : Nat) : val (List.replicate n 0) = 0 := by
  induction n with
  | zero => rfl
  | succ n ih => rw [List.replicate_succ, val, ih]; rfl
theorem wf_rep (n : Nat) : WF (List.replicate n 0) := fun x hx => by rw [List.eq_of_mem_replicate hx]; decide

theorem ref01_times (m v k : Nat) (hm : (limbs m).length < 10000000000) (hv : v < 4294967296) (hk : k < 10000000000) : Ret Tryd.prog 82 [u32s (limbs m), .int .u32 v, .int .i64 k] (· = u32s (limbs (m * v * B ^ k))) := by
  have wa := wf_limbs m
  have va := val_limbs m
  generalize limbs m = a at *
  refine ret_of_awp tab Tryd.func82 rfl rfl (Nat.le_of_ble_eq_true rfl) (fun w0 F0 => ?_)
  repeat' (first
    | (show awpL _ _ _ _ _; first | refine goL ?_ | (refine gdLD rfl rfl (fun _ => ?_) (fun _ => ?_) <;> try (exfalso; omega)) | (refine gdLN rfl rfl (fun _ => ?_) (fun _ => ?_) <;> try (exfalso; omega)) | refine gdL rfl rfl (fun _ => ?_) (fun _ => ?_))
    | (show awp _ _ _ _; first | refine goA ?_ | (refine awp_condD rfl (fun _ => ?_) (fun _ => ?_) <;> try (exfalso; omega)) | (refine awp_condN rfl (fun _ => ?_) (fun _ => ?_) <;> try (exfalso; omega)) | refine awp_cond rfl (fun _ => ?_) (fun _ => ?_))
    | (show andThen _ _ _ _; first | refine goN ?_)
    | (show inBlock _ _ _ _; first | refine goB ?_)
    | (show awpR _ _ _ _ _ _; first | refine goR ?_ | (refine gdRD rfl rfl (fun _ => ?_) (fun _ => ?_) <;> try (exfalso; omega)) | (refine gdRN rfl rfl (fun _ => ?_) (fun _ => ?_) <;> try (exfalso; omega)) | refine gdR rfl rfl (fun _ => ?_) (fun _ => ?_))
    | (show retPost _ _ _ _ _; first | refine finF true rfl rfl sc ?_ | refine finF false rfl rfl sc ?_ | refine finN rfl rfl sc ?_ | refine finL true rfl rfl sc rfl (LeR.cons rfl leL LeR.nil) ?_ | refine finE true rfl rfl sc ?_ | refine finE false rfl rfl sc ?_))
  refine awp_loop2 (fun (l : List Nat) (c : Nat) => ([(0, .d (u32s a)), (1, .d (.int .u32 v)), (7, .own 12 0 l.length 75 1), (8, .d (.int .u64 c)), (9, .d (.int .i64 (l.length - k)))], [(12, .data 75 1 (eN .u32) 0 l)])) (fun l c => k ≤ l.length ∧ l.length ≤ a.length + k + 1 ∧ WF l ∧ c < B ∧ val l + c * B ^ l.length = B ^ k * (val (a.take (l.length - k)) * v)) (fun l c => a.length + k + 1 - l.length) (List.replicate k 0) 0 ⟨by simp, by simp; omega, wf_rep _, by decide, by simp [val_rep, val]⟩ ⟨rfl, rfl, by simp; rfl, rfl, iv (by simp), rfl⟩ ⟨rfl, trivial⟩ (fun l c hi => ?_)
  obtain ⟨h1, h1', h2, h3, h4⟩ := hi
  have g1 := wa.getD (l.length - k)
  simp only [B_val] at g1 h3
  have g2 : a.getD (l.length - k) 0 * v ≤ 4294967295 * 4294967295 := Nat.mul_le_mul (by omega) (by omega)
  repeat' (first
    | (show awpL _ _ _ _ _; first | refine goL ?_ | refine cl 53 tt rfl rfl rfl (hr := ref01_limb _ _ (l.length - k) (by omega) (by omega) wa (by omega) (by omega)) (k := ?_) | refine cl 54 tt rfl rfl rfl (hr := ref01_trim _ (by omega)) (k := ?_) | (refine gdLD rfl rfl (fun _ => ?_) (fun _ => ?_) <;> try (exfalso; omega)) | (refine gdLN rfl rfl (fun _ => ?_) (fun _ => ?_) <;> try (exfalso; omega)) | refine gdL rfl rfl (fun _ => ?_) (fun _ => ?_))
    | (show awp _ _ _ _; first | refine goA ?_ | (refine awp_condD rfl (fun _ => ?_) (fun _ => ?_) <;> try (exfalso; omega)) | (refine awp_condN rfl (fun _ => ?_) (fun _ => ?_) <;> try (exfalso; omega)) | refine awp_cond rfl (fun _ => ?_) (fun _ => ?_))
    | (show andThen _ _ _ _; first | refine goN ?_)
    | (show inBlock _ _ _ _; first | refine goB ?_)
    | (show awpR _ _ _ _ _ _; first | refine goR ?_ | refine clR 53 tt rfl rfl rfl (hr := ref01_limb _ _ (l.length - k) (by omega) (by omega) wa (by omega) (by omega)) (k := ?_) | refine clR 54 tt rfl rfl rfl (hr := ref01_trim _ (by omega)) (k := ?_) | (refine gdRD rfl rfl (fun _ => ?_) (fun _ => ?_) <;> try (exfalso; omega)) | (refine gdRN rfl rfl (fun _ => ?_) (fun _ => ?_) <;> try (exfalso; omega)) | refine gdR rfl rfl (fun _ => ?_) (fun _ => ?_))
    | (show retPost _ _ _ _ _; first | refine finF true rfl rfl sc ?_ | refine finF false rfl rfl sc ?_ | refine finN rfl rfl sc ?_ | refine finL true rfl rfl sc rfl (LeR.cons rfl leL LeR.nil) ?_ | refine finE true rfl rfl sc ?_ | refine finE false rfl rfl sc ?_))
  · rename_i h5
    exact ⟨_, (a.getD (l.length - k) 0 * v + c) / 4294967296, ⟨by simp; omega, by simp; omega, by
      have := times_step (a := a) (i := l.length - k) (by' := k) wa h2 h3 hv (by omega) h4 rfl rfl rfl
      rw [show l.length - k + 1 = (l ++ [(a.getD (l.length - k) 0 * v + c) % 4294967296]).length - k by simp; omega] at this
      rw [show (((a.getD (l.length - k) 0 : Nat) * (v : Nat) + (c : Nat) : Int) % 4294967296).toNat = (a.getD (l.length - k) 0 * v + c) % 4294967296 by omega]
      exact this⟩, by simp; omega, ⟨rfl, rfl, rfl, iv (by omega), iv (by simp; omega), rfl⟩, rfl, trivial⟩
  · rename_i h5
    rw [val_take_all a (by omega)] at h4
    have g3 := val_lt wa
    have g9 : c = 0 := by
      refine Nat.le_zero.1 (Nat.le_of_not_lt fun hc => ?_)
      have h6 := Nat.mul_le_mul_right (B ^ l.length) (show 1 ≤ c from hc)
      have h7 : val a * v < B ^ a.length * B := Nat.mul_lt_mul_of_lt_of_le g3 (by rw [B_val]; omega) (by decide)
      have h8 := Nat.mul_lt_mul_of_pos_left h7 (Nat.pow_pos (n := k) (show 0 < B by decide))
      rw [← Nat.pow_succ, ← Nat.pow_add, show k + a.length.succ = l.length by omega] at h8
      omega
    subst g9
    rw [trimL_limbs h2, ← va, show val l = val a * v * B ^ k by rw [Nat.mul_comm _ (B ^ k)]; omega]

theorem mul_len {m n k l : Nat} (h : ln m ≤ k) (h2 : ln n ≤ l) : ln (m * n) ≤ k + l := Nat.le_trans (ln_mul m n) (by omega)

theorem ref01_TakeN (n : Nat) (h : (limbs n).length < 100000000000) : Ret Tryd.prog 51 [u32s (limbs n)] (· = u32s (limbs n)) := by
  have := ref01_Take (limbs n) (by omega)
  rw [takeL_of] at this
  exact this
theorem ref01_TakeV (l : List Nat) (wl : WF l) (h : l.length < 100000000000) : Ret Tryd.prog 51 [u32s l] (· = u32s (limbs (nv l))) := by
  have := ref01_Take l (by omega)
  rw [takeL_limbs wl] at this
  exact this
theorem ref01_AddN (m n : Nat) (hm : (limbs m).length < 100000000000) (hn : (limbs n).length < 100000000000) : Ret Tryd.prog 64 [u32s (limbs m), u32s (limbs n)] (· = u32s (limbs (m + n))) := by
  have := ref01_Add (limbs m) (limbs n) hm hn (wf_limbs m) (wf_limbs n)
  rw [nv_limbs, nv_limbs] at this
  exact this
theorem ref01_SubN (m n : Nat) (hm : (limbs m).length < 100000000000) (hn : (limbs n).length < 100000000000) : Ret Tryd.prog 65 [u32s (limbs m), u32s (limbs n)] (· = .tup [u32s (limbs (m - n)), .bool (decide (n ≤ m))]) := by
  have := ref01_Sub (limbs m) (limbs n) hm hn (wf_limbs m) (wf_limbs n)
  rw [nv_limbs, nv_limbs] at this
  exact this

theorem ref01_Mul (a b : List Nat) (hla : a.length < 1000000000) (hlb : b.length < 1000000000) (wa : WF a) (wb : WF b) : Ret Tryd.prog 66 [u32s a, u32s b] (· = u32s (limbs (nv a * nv b))) := by
  have la := length_limbs_nv wa
  have lb := length_limbs_nv wb
  have ta := ref01_TakeV a wa (by omega)
  have tb := ref01_TakeV b wb (by omega)
  generalize nv a = m at *
  generalize nv b = n at *
  have wb' := wf_limbs n
  have vb := val_limbs n
  generalize limbs n = b' at *
  refine ret_of_awp tab Tryd.func66 rfl rfl (Nat.le_of_ble_eq_true rfl) (fun w0 F0 => ?_)
  repeat' (first
    | (show awpL _ _ _ _ _; first | refine goL ?_ | refine cl 51 tt rfl rfl rfl (hr := ta) (k := ?_) | refine cl 51 tt rfl rfl rfl (hr := tb) (k := ?_) | (refine gdLD rfl rfl (fun _ => ?_) (fun _ => ?_) <;> try (exfalso; omega)) | (refine gdLN rfl rfl (fun _ => ?_) (fun _ => ?_) <;> try (exfalso; omega)) | refine gdL rfl rfl (fun _ => ?_) (fun _ => ?_))
    | (show awp _ _ _ _; first | refine goA ?_ | (refine awp_condD rfl (fun _ => ?_) (fun _ => ?_) <;> try (exfalso; omega)) | (refine awp_condN rfl (fun _ => ?_) (fun _ => ?_) <;> try (exfalso; omega)) | refine awp_cond rfl (fun _ => ?_) (fun _ => ?_))
    | (show andThen _ _ _ _; first | refine goN ?_)
    | (show inBlock _ _ _ _; first | refine goB ?_)
    | (show awpR _ _ _ _ _ _; first | refine goR ?_ | refine clR 51 tt rfl rfl rfl (hr := ta) (k := ?_) | refine clR 51 tt rfl rfl rfl (hr := tb) (k := ?_) | (refine gdRD rfl rfl (fun _ => ?_) (fun _ => ?_) <;> try (exfalso; omega)) | (refine gdRN rfl rfl (fun _ => ?_) (fun _ => ?_) <;> try (exfalso; omega)) | refine gdR rfl rfl (fun _ => ?_) (fun _ => ?_))
    | (show retPost _ _ _ _ _; first | refine finF true rfl rfl sc ?_ | refine finF false rfl rfl sc ?_ | refine finN rfl rfl sc ?_ | refine finL true rfl rfl sc rfl (LeR.cons rfl leL LeR.nil) ?_ | refine finE true rfl rfl sc ?_ | refine finE false rfl rfl sc ?_))
  refine awp_nils 5 1 (eN .u32) 0 rfl ?_
  refine awp_loop1 (fun (i : Nat) => ([(0, .d (u32s (limbs m))), (1, .d (u32s b')), (5, .d (u32s (limbs (m * val (b'.take i))))), (6, .d (.int .i64 i))], [])) (fun i => i ≤ b'.length) (fun i => b'.length - i) 0 (by simp) ⟨rfl, rfl, by simp [val, limbs_zero]; rfl, rfl, rfl⟩ trivial (fun i hi => ?_)
  have g1 := wb'.getD i
  simp only [B_val] at g1
  have g2 : ln (val (b'.take i)) ≤ b'.length := by
    refine ln_le (Nat.lt_of_lt_of_le (val_lt (wb'.take i)) (Nat.pow_le_pow_right (by decide) ?_))
    simp; omega
  have g3 := mul_len (m := m) (Nat.le_refl _) g2
  have g4 := mul_len (mul_len (m := m) (Nat.le_refl _) (ln_small (by rw [B_val]; exact g1))) (ln_le (n := B ^ i) (k := i + 1) (by rw [Nat.pow_succ]; have := Nat.pow_pos (n := i) (show 0 < B by decide); rw [B_val] at *; omega))
  simp only [ln] at *
  repeat' (first
    | (show awpL _ _ _ _ _; first | refine goL ?_ | refine cl 82 tt rfl rfl rfl (hr := ref01_times _ _ _ (by omega) (by omega) (by omega)) (k := ?_) | refine cl 64 tt rfl rfl rfl (hr := ref01_AddN _ _ (by omega) (by omega)) (k := ?_) | (refine gdLD rfl rfl (fun _ => ?_) (fun _ => ?_) <;> try (exfalso; omega)) | (refine gdLN rfl rfl (fun _ => ?_) (fun _ => ?_) <;> try (exfalso; omega)) | refine gdL rfl rfl (fun _ => ?_) (fun _ => ?_))
    | (show awp _ _ _ _; first | refine goA ?_ | (refine awp_condD rfl (fun _ => ?_) (fun _ => ?_) <;> try (exfalso; omega)) | (refine awp_condN rfl (fun _ => ?_) (fun _ => ?_) <;> try (exfalso; omega)) | refine awp_cond rfl (fun _ => ?_) (fun _ => ?_))
    | (show andThen _ _ _ _; first | refine goN ?_)
    | (show inBlock _ _ _ _; first | refine goB ?_)
    | (show awpR _ _ _ _ _ _; first | refine goR ?_ | refine clR 82 tt rfl rfl rfl (hr := ref01_times _ _ _ (by omega) (by omega) (by omega)) (k := ?_) | refine clR 64 tt rfl rfl rfl (hr := ref01_AddN _ _ (by omega) (by omega)) (k := ?_) | (refine gdRD rfl rfl (fun _ => ?_) (fun _ => ?_) <;> try (exfalso; omega)) | (refine gdRN rfl rfl (fun _ => ?_) (fun _ => ?_) <;> try (exfalso; omega)) | refine gdR rfl rfl (fun _ => ?_) (fun _ => ?_))
    | (show retPost _ _ _ _ _; first | refine finF true rfl rfl sc ?_ | refine finF false rfl rfl sc ?_ | refine finN rfl rfl sc ?_ | refine finL true rfl rfl sc rfl (LeR.cons rfl leL LeR.nil) ?_ | refine finE true rfl rfl sc ?_ | refine finE false rfl rfl sc ?_))
  · refine ⟨i + 1, by omega, by omega, ⟨rfl, rfl, ?_, iv (by simp), rfl⟩, trivial⟩
    rw [val_take_succ, Nat.mul_add, Nat.mul_assoc, Nat.mul_comm (b'.getD i 0)]; rfl
  · rw [val_take_all b' (by omega), vb]
theorem ref01_MulN (m n : Nat) (hm : (limbs m).length < 1000000000) (hn : (limbs n).length < 1000000000) : Ret Tryd.prog 66 [u32s (limbs m), u32s (limbs n)] (· = u32s (limbs (m * n))) := by
  have := ref01_Mul (limbs m) (limbs n) hm hn (wf_limbs m) (wf_limbs n)
  rw [nv_limbs, nv_limbs] at this
  exact this

theorem two_limbs (v : Nat) (h : v < 18446744073709551616) : trimL [v % 4294967296, v / 4294967296] = limbs v := by
  rw [trimL_limbs]
  · congr 1; simp only [val, B_val]; omega
  · intro x hx; simp at hx; rw [B_val]; omega
theorem ref01_FromUint (v : Nat) (h : v < 18446744073709551616) : Ret Tryd.prog 32 [.int .u64 v] (· = u32s (limbs v)) := by
  have ht := ref01_trim [v % 4294967296, v / 4294967296] (by simp)
  rw [two_limbs v h] at ht
  refine ret_of_awp tab Tryd.func32 rfl rfl (Nat.le_of_ble_eq_true rfl) (fun w0 F0 => ?_)
  repeat' (first
    | (show awpL _ _ _ _ _; first | refine goL ?_ | refine cl 54 tt rfl rfl rfl (hr := ht) (k := ?_) | (refine gdLD rfl rfl (fun _ => ?_) (fun _ => ?_) <;> try (exfalso; omega)) | (refine gdLN rfl rfl (fun _ => ?_) (fun _ => ?_) <;> try (exfalso; omega)) | refine gdL rfl rfl (fun _ => ?_) (fun _ => ?_))
    | (show awp _ _ _ _; first | refine goA ?_ | (refine awp_condD rfl (fun _ => ?_) (fun _ => ?_) <;> try (exfalso; omega)) | (refine awp_condN rfl (fun _ => ?_) (fun _ => ?_) <;> try (exfalso; omega)) | refine awp_cond rfl (fun _ => ?_) (fun _ => ?_))
    | (show andThen _ _ _ _; first | refine goN ?_)
    | (show inBlock _ _ _ _; first | refine goB ?_)
    | (show awpR _ _ _ _ _ _; first | refine goR ?_ | refine clR 54 tt rfl rfl rfl (hr := ht) (k := ?_) | (refine gdRD rfl rfl (fun _ => ?_) (fun _ => ?_) <;> try (exfalso; omega)) | (refine gdRN rfl rfl (fun _ => ?_) (fun _ => ?_) <;> try (exfalso; omega)) | refine gdR rfl rfl (fun _ => ?_) (fun _ => ?_))
    | (show retPost _ _ _ _ _; first | refine finF true rfl rfl sc ?_ | refine finF false rfl rfl sc ?_ | refine finN rfl rfl sc ?_ | refine finL true rfl rfl sc rfl (LeR.cons rfl leL LeR.nil) ?_ | refine finE true rfl rfl sc ?_ | refine finE false rfl rfl sc ?_))
  rfl
theorem ref01_bit (m i : Nat) (hm : (limbs m).length < 100000000000) (hi : i < 32 * (limbs m).length) : Ret Tryd.prog 72 [u32s (limbs m), .int .i64 i] (· = .int .u32 (m / 2 ^ i % 2 : Nat)) := by
  have e0 : (((limbs m).getD (i / 32) 0 : Nat) : Int) / 2 ^ ((i : Int) % 32).toNat = (((limbs m).getD (i / 32) 0 / 2 ^ (i % 32) : Nat) : Int) := by
    rw [show ((i : Int) % 32).toNat = i % 32 by omega]; simp
  have e1 : (limbs m).getD (i / 32) 0 / 2 ^ (i % 32) < 4294967296 := Nat.lt_of_le_of_lt (Nat.div_le_self _ _) ((wf_limbs m).getD _)
  refine ret_of_awp tab Tryd.func72 rfl rfl (Nat.le_of_ble_eq_true rfl) (fun w0 F0 => ?_)
  repeat' (first
    | (show awpL _ _ _ _ _; first | refine goL ?_ | (refine gdLD rfl rfl (fun _ => ?_) (fun _ => ?_) <;> try (exfalso; omega)) | (refine gdLN rfl rfl (fun _ => ?_) (fun _ => ?_) <;> try (exfalso; omega)) | refine gdL rfl rfl (fun _ => ?_) (fun _ => ?_))
    | (show awp _ _ _ _; first | refine goA ?_ | (refine awp_condD rfl (fun _ => ?_) (fun _ => ?_) <;> try (exfalso; omega)) | (refine awp_condN rfl (fun _ => ?_) (fun _ => ?_) <;> try (exfalso; omega)) | refine awp_cond rfl (fun _ => ?_) (fun _ => ?_))
    | (show andThen _ _ _ _; first | refine goN ?_)
    | (show inBlock _ _ _ _; first | refine goB ?_)
    | (show awpR _ _ _ _ _ _; first | refine goR ?_ | (refine gdRD rfl rfl (fun _ => ?_) (fun _ => ?_) <;> try (exfalso; omega)) | (refine gdRN rfl rfl (fun _ => ?_) (fun _ => ?_) <;> try (exfalso; omega)) | refine gdR rfl rfl (fun _ => ?_) (fun _ => ?_))
    | (show retPost _ _ _ _ _; first | refine finF true rfl rfl sc ?_ | refine finF false rfl rfl sc ?_ | refine finN rfl rfl sc ?_ | refine finL true rfl rfl sc rfl (LeR.cons rfl leL LeR.nil) ?_ | refine finE true rfl rfl sc ?_ | refine finE false rfl rfl sc ?_))
  rw [e0]
  have e2 := bit_of_limb m i
  generalize (limbs m).getD (i / 32) 0 / 2 ^ (i % 32) = q at *
  repeat' (first
    | (show awpL _ _ _ _ _; first | refine goL ?_ | (refine gdLD rfl rfl (fun _ => ?_) (fun _ => ?_) <;> try (exfalso; omega)) | (refine gdLN rfl rfl (fun _ => ?_) (fun _ => ?_) <;> try (exfalso; omega)) | refine gdL rfl rfl (fun _ => ?_) (fun _ => ?_))
    | (show awp _ _ _ _; first | refine goA ?_ | (refine awp_condD rfl (fun _ => ?_) (fun _ => ?_) <;> try (exfalso; omega)) | (refine awp_condN rfl (fun _ => ?_) (fun _ => ?_) <;> try (exfalso; omega)) | refine awp_cond rfl (fun _ => ?_) (fun _ => ?_))
    | (show andThen _ _ _ _; first | refine goN ?_)
    | (show inBlock _ _ _ _; first | refine goB ?_)
    | (show awpR _ _ _ _ _ _; first | refine goR ?_ | (refine gdRD rfl rfl (fun _ => ?_) (fun _ => ?_) <;> try (exfalso; omega)) | (refine gdRN rfl rfl (fun _ => ?_) (fun _ => ?_) <;> try (exfalso; omega)) | refine gdR rfl rfl (fun _ => ?_) (fun _ => ?_))
    | (show retPost _ _ _ _ _; first | refine finF true rfl rfl sc ?_ | refine finF false rfl rfl sc ?_ | refine finN rfl rfl sc ?_ | refine finL true rfl rfl sc rfl (LeR.cons rfl leL LeR.nil) ?_ | refine finE true rfl rfl sc ?_ | refine finE false rfl rfl sc ?_))
  rw [Int.toNat_natCast, show (1 : Int).toNat = 2 ^ 1 - 1 from rfl, Nat.and_two_pow_sub_one_eq_mod, ← e2]
theorem ref01_double (m o : Nat) (hm : (limbs m).length < 1000000000) (ho : o ≤ 1) : Ret Tryd.prog 71 [u32s (limbs m), .int .u32 o] (· = u32s (limbs (2 * m + o))) := by
  have h1 : (limbs (m * 2 * B ^ 0)).length ≤ (limbs m).length + 1 := by
    have := ln_mul m 2
    have := ln_small (n := 2) (by decide)
    simp only [ln] at *
    simp only [Nat.pow_zero, Nat.mul_one]
    omega
  have a1 := ref01_AddN (m * 2 * B ^ 0) 1 (by omega) (by have := ln_one; simp only [ln] at this; omega)
  rw [show limbs 1 = [1] from limbs_small (by decide) (by decide)] at a1
  refine ret_of_awp tab Tryd.func71 rfl rfl (Nat.le_of_ble_eq_true rfl) (fun w0 F0 => ?_)
  repeat' (first
    | (show awpL _ _ _ _ _; first | refine goL ?_ | refine cl 82 tt rfl rfl rfl (hr := ref01_times _ 2 0 (by omega) (by omega) (by omega)) (k := ?_) | refine cl 64 tt rfl rfl rfl (hr := a1) (k := ?_) | (refine gdLD rfl rfl (fun _ => ?_) (fun _ => ?_) <;> try (exfalso; omega)) | (refine gdLN rfl rfl (fun _ => ?_) (fun _ => ?_) <;> try (exfalso; omega)) | refine gdL rfl rfl (fun _ => ?_) (fun _ => ?_))
    | (show awp _ _ _ _; first | refine goA ?_ | (refine awp_condD rfl (fun _ => ?_) (fun _ => ?_) <;> try (exfalso; omega)) | (refine awp_condN rfl (fun _ => ?_) (fun _ => ?_) <;> try (exfalso; omega)) | refine awp_cond rfl (fun _ => ?_) (fun _ => ?_))
    | (show andThen _ _ _ _; first | refine goN ?_)
    | (show inBlock _ _ _ _; first | refine goB ?_)
    | (show awpR _ _ _ _ _ _; first | refine goR ?_ | refine clR 82 tt rfl rfl rfl (hr := ref01_times _ 2 0 (by omega) (by omega) (by omega)) (k := ?_) | refine clR 64 tt rfl rfl rfl (hr := a1) (k := ?_) | (refine gdRD rfl rfl (fun _ => ?_) (fun _ => ?_) <;> try (exfalso; omega)) | (refine gdRN rfl rfl (fun _ => ?_) (fun _ => ?_) <;> try (exfalso; omega)) | refine gdR rfl rfl (fun _ => ?_) (fun _ => ?_))
    | (show retPost _ _ _ _ _; first | refine finF true rfl rfl sc ?_ | refine finF false rfl rfl sc ?_ | refine finN rfl rfl sc ?_ | refine finL true rfl rfl sc rfl (LeR.cons rfl leL LeR.nil) ?_ | refine finE true rfl rfl sc ?_ | refine finE false rfl rfl sc ?_))
  · rw [Nat.pow_zero, Nat.mul_one, Nat.mul_comm m, show o = 1 by omega]
  · rw [Nat.pow_zero, Nat.mul_one, Nat.mul_comm m, show o = 0 by omega, Nat.add_zero]
end Go.Proofs.YtcblkjmnigbiiaaDoor
