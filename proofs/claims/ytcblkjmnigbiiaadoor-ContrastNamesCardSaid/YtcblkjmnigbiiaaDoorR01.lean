/-
  Contracts of the reference's natural numbers: Valid, trim, limb, Take, compare, Add. Conditions: lengths are bounded.
-/
import Derived.Test.YtcblkjmnigbiiaaDoorTytab
import Derived.Test.YtcblkjmnigbiiaaDoorLimbsB
set_option linter.unusedVariables false
set_option linter.unusedSimpArgs false
namespace Go.Proofs.YtcblkjmnigbiiaaDoor
open Go.Vw
attribute [local irreducible] awp awpL awpR

theorem ref01_Valid (l : List Nat) (hl : l.length < 1000000000000) : Ret Tryd.prog 70 [u32s l] (· = .bool (valid l)) := by
  refine ret_of_awp tab Tryd.func70 rfl rfl (Nat.le_of_ble_eq_true rfl) (fun w0 F0 => ?_)
  repeat' (first
    | (show awpL _ _ _ _ _; first | refine goL ?_ | (refine gdLD rfl rfl (fun _ => ?_) (fun _ => ?_) <;> try (exfalso; omega)) | (refine gdLN rfl rfl (fun _ => ?_) (fun _ => ?_) <;> try (exfalso; omega)) | refine gdL rfl rfl (fun _ => ?_) (fun _ => ?_))
    | (show awp _ _ _ _; first | refine goA ?_ | (refine awp_condD rfl (fun _ => ?_) (fun _ => ?_) <;> try (exfalso; omega)) | (refine awp_condN rfl (fun _ => ?_) (fun _ => ?_) <;> try (exfalso; omega)) | refine awp_cond rfl (fun _ => ?_) (fun _ => ?_))
    | (show andThen _ _ _ _; first | refine goN ?_)
    | (show inBlock _ _ _ _; first | refine goB ?_)
    | (show awpR _ _ _ _ _ _; first | refine goR ?_ | (refine gdRD rfl rfl (fun _ => ?_) (fun _ => ?_) <;> try (exfalso; omega)) | (refine gdRN rfl rfl (fun _ => ?_) (fun _ => ?_) <;> try (exfalso; omega)) | refine gdR rfl rfl (fun _ => ?_) (fun _ => ?_))
    | (show retPost _ _ _ _ _; first | refine finF true rfl rfl sc ?_ | refine finF false rfl rfl sc ?_ | refine finN rfl rfl sc ?_ | refine finL true rfl rfl sc rfl (LeR.cons rfl leL LeR.nil) ?_ | refine finE true rfl rfl sc ?_ | refine finE false rfl rfl sc ?_))
  · rename_i h
    have : l = [] := List.length_eq_zero_iff.1 (by omega)
    subst this; rfl
  · rename_i h
    have hn : l ≠ [] := fun e => h (by simp [e])
    have e : ((l.length : Int) - 1).toNat = l.length - 1 := by omega
    rw [e]
    have hv : valid l = (l.getD (l.length - 1) 0 != 0) := by conv => lhs; rw [list_snoc hn, valid_snoc]
    rw [hv]
    congr 1
    rw [Bool.eq_iff_iff]; simp

theorem trimL_last {m : List Nat} (h : 0 < m.length) (h0 : m.getD (m.length - 1) 0 = 0) : trimL (m.take (m.length - 1)) = trimL m := by
  have hn : m ≠ [] := fun e => by simp [e] at h
  conv => rhs; rw [list_snoc hn, trimL_snoc, if_pos h0]
theorem trimL_done {m : List Nat} (h0 : ¬ m.getD (m.length - 1) 0 = 0) : trimL m = m :=
  valid_trim (by
    have hn : m ≠ [] := fun e => h0 (by simp [e])
    rw [list_snoc hn, valid_snoc, bne_iff_ne]; exact h0)

theorem ref01_trim (l : List Nat) (hl : l.length < 1000000000000) : Ret Tryd.prog 54 [u32s l] (· = u32s (trimL l)) := by
  refine ret_of_awp tab Tryd.func54 rfl rfl (Nat.le_of_ble_eq_true rfl) (fun w0 F0 => ?_)
  repeat' (first
    | (show awpL _ _ _ _ _; first | refine goL ?_ | (refine gdLD rfl rfl (fun _ => ?_) (fun _ => ?_) <;> try (exfalso; omega)) | (refine gdLN rfl rfl (fun _ => ?_) (fun _ => ?_) <;> try (exfalso; omega)) | refine gdL rfl rfl (fun _ => ?_) (fun _ => ?_))
    | (show awp _ _ _ _; first | refine goA ?_ | (refine awp_condD rfl (fun _ => ?_) (fun _ => ?_) <;> try (exfalso; omega)) | (refine awp_condN rfl (fun _ => ?_) (fun _ => ?_) <;> try (exfalso; omega)) | refine awp_cond rfl (fun _ => ?_) (fun _ => ?_))
    | (show andThen _ _ _ _; first | refine goN ?_)
    | (show inBlock _ _ _ _; first | refine goB ?_)
    | (show awpR _ _ _ _ _ _; first | refine goR ?_ | (refine gdRD rfl rfl (fun _ => ?_) (fun _ => ?_) <;> try (exfalso; omega)) | (refine gdRN rfl rfl (fun _ => ?_) (fun _ => ?_) <;> try (exfalso; omega)) | refine gdR rfl rfl (fun _ => ?_) (fun _ => ?_))
    | (show retPost _ _ _ _ _; first | refine finF true rfl rfl sc ?_ | refine finF false rfl rfl sc ?_ | refine finN rfl rfl sc ?_ | refine finL true rfl rfl sc rfl (LeR.cons rfl leL LeR.nil) ?_ | refine finE true rfl rfl sc ?_ | refine finE false rfl rfl sc ?_))
  refine awp_loop1 (fun m : List Nat => ([(0, .d (u32s m))], [])) (fun m => trimL m = trimL l ∧ m.length ≤ l.length) (fun m => m.length) l ⟨rfl, Nat.le_refl _⟩ ⟨rfl, rfl⟩ trivial (fun m hm => ?_)
  obtain ⟨hm1, hm2⟩ := hm
  have e : ((m.length : Int) - 1).toNat = m.length - 1 := by omega
  repeat' (first
    | (show awpL _ _ _ _ _; first | refine goL ?_ | (refine gdLD rfl rfl (fun _ => ?_) (fun _ => ?_) <;> try (exfalso; omega)) | (refine gdLN rfl rfl (fun _ => ?_) (fun _ => ?_) <;> try (exfalso; omega)) | refine gdL rfl rfl (fun _ => ?_) (fun _ => ?_))
    | (show awp _ _ _ _; first | refine goA ?_ | (refine awp_condD rfl (fun _ => ?_) (fun _ => ?_) <;> try (exfalso; omega)) | (refine awp_condN rfl (fun _ => ?_) (fun _ => ?_) <;> try (exfalso; omega)) | refine awp_cond rfl (fun _ => ?_) (fun _ => ?_))
    | (show andThen _ _ _ _; first | refine goN ?_)
    | (show inBlock _ _ _ _; first | refine goB ?_)
    | (show awpR _ _ _ _ _ _; first | refine goR ?_ | (refine gdRD rfl rfl (fun _ => ?_) (fun _ => ?_) <;> try (exfalso; omega)) | (refine gdRN rfl rfl (fun _ => ?_) (fun _ => ?_) <;> try (exfalso; omega)) | refine gdR rfl rfl (fun _ => ?_) (fun _ => ?_))
    | (show retPost _ _ _ _ _; first | refine finF true rfl rfl sc ?_ | refine finF false rfl rfl sc ?_ | refine finN rfl rfl sc ?_ | refine finL true rfl rfl sc rfl (LeR.cons rfl leL LeR.nil) ?_ | refine finE true rfl rfl sc ?_ | refine finE false rfl rfl sc ?_))
  · rename_i h1 h2
    rw [e] at h2
    refine ⟨m.take ((m.length : Int) - 1).toNat, ⟨?_, ?_⟩, ?_, ⟨rfl, rfl⟩, trivial⟩
    · rw [e, trimL_last (by omega) (by omega), hm1]
    · simp; omega
    · simp; omega
  · rename_i h1 h2
    rw [e] at h2
    rw [← hm1, trimL_done (by omega)]
  · rename_i h1
    have : m = [] := List.length_eq_zero_iff.1 (by omega)
    subst this
    rw [← hm1]; rfl

theorem ref01_limb (l : List Nat) (i : Int) (j : Nat) (hij : i.toNat = j) (hl : l.length < 1000000000000) (hw : WF l) (h0 : 0 ≤ i) (h1 : i < 1000000000000) : Ret Tryd.prog 53 [u32s l, .int .i64 i] (· = .int .u64 (l.getD j 0 : Nat)) := by
  subst hij
  have hb := hw.getD i.toNat
  simp only [B_val] at hb
  refine ret_of_awp tab Tryd.func53 rfl rfl (Nat.le_of_ble_eq_true rfl) (fun w0 F0 => ?_)
  repeat' (first
    | (show awpL _ _ _ _ _; first | refine goL ?_ | (refine gdLD rfl rfl (fun _ => ?_) (fun _ => ?_) <;> try (exfalso; omega)) | (refine gdLN rfl rfl (fun _ => ?_) (fun _ => ?_) <;> try (exfalso; omega)) | refine gdL rfl rfl (fun _ => ?_) (fun _ => ?_))
    | (show awp _ _ _ _; first | refine goA ?_ | (refine awp_condD rfl (fun _ => ?_) (fun _ => ?_) <;> try (exfalso; omega)) | (refine awp_condN rfl (fun _ => ?_) (fun _ => ?_) <;> try (exfalso; omega)) | refine awp_cond rfl (fun _ => ?_) (fun _ => ?_))
    | (show andThen _ _ _ _; first | refine goN ?_)
    | (show inBlock _ _ _ _; first | refine goB ?_)
    | (show awpR _ _ _ _ _ _; first | refine goR ?_ | (refine gdRD rfl rfl (fun _ => ?_) (fun _ => ?_) <;> try (exfalso; omega)) | (refine gdRN rfl rfl (fun _ => ?_) (fun _ => ?_) <;> try (exfalso; omega)) | refine gdR rfl rfl (fun _ => ?_) (fun _ => ?_))
    | (show retPost _ _ _ _ _; first | refine finF true rfl rfl sc ?_ | refine finF false rfl rfl sc ?_ | refine finN rfl rfl sc ?_ | refine finL true rfl rfl sc rfl (LeR.cons rfl leL LeR.nil) ?_ | refine finE true rfl rfl sc ?_ | refine finE false rfl rfl sc ?_))
  · rename_i h
    rw [show l.getD i.toNat 0 = 0 from by simp [List.getD, List.getElem?_eq_none (show l.length ≤ i.toNat by omega)]]; rfl
  · rfl
theorem ref01_Take (l : List Nat) (hl : l.length < 1000000000000) : Ret Tryd.prog 51 [u32s l] (· = u32s (takeL l)) := by
  refine ret_of_awp tab Tryd.func51 rfl rfl (Nat.le_of_ble_eq_true rfl) (fun w0 F0 => ?_)
  repeat' (first
    | (show awpL _ _ _ _ _; first | refine goL ?_ | refine cl 70 tt rfl rfl rfl (hr := ref01_Valid _ hl) (k := ?_) | (refine gdLD rfl rfl (fun _ => ?_) (fun _ => ?_) <;> try (exfalso; omega)) | (refine gdLN rfl rfl (fun _ => ?_) (fun _ => ?_) <;> try (exfalso; omega)) | refine gdL rfl rfl (fun _ => ?_) (fun _ => ?_))
    | (show awp _ _ _ _; first | refine goA ?_ | (refine awp_condD rfl (fun _ => ?_) (fun _ => ?_) <;> try (exfalso; omega)) | (refine awp_condN rfl (fun _ => ?_) (fun _ => ?_) <;> try (exfalso; omega)) | refine awp_cond rfl (fun _ => ?_) (fun _ => ?_))
    | (show andThen _ _ _ _; first | refine goN ?_)
    | (show inBlock _ _ _ _; first | refine goB ?_)
    | (show awpR _ _ _ _ _ _; first | refine goR ?_ | refine clR 70 tt rfl rfl rfl (hr := ref01_Valid _ hl) (k := ?_) | (refine gdRD rfl rfl (fun _ => ?_) (fun _ => ?_) <;> try (exfalso; omega)) | (refine gdRN rfl rfl (fun _ => ?_) (fun _ => ?_) <;> try (exfalso; omega)) | refine gdR rfl rfl (fun _ => ?_) (fun _ => ?_))
    | (show retPost _ _ _ _ _; first | refine finF true rfl rfl sc ?_ | refine finF false rfl rfl sc ?_ | refine finN rfl rfl sc ?_ | refine finL true rfl rfl sc rfl (LeR.cons rfl leL LeR.nil) ?_ | refine finE true rfl rfl sc ?_ | refine finE false rfl rfl sc ?_))

  · rename_i e
    simp at e
    simp [takeL, e]
  · rename_i e
    simp at e
    simp [takeL, e]

theorem ref01_compare (m n : Nat) (ha : (limbs m).length < 1000000000000) (hb : (limbs n).length < 1000000000000) : Ret Tryd.prog 81 [u32s (limbs m), u32s (limbs n)] (· = .int .i64 (cmpN m n)) := by
  have wa := wf_limbs m
  have wb := wf_limbs n
  have va := val_limbs m
  have vb := val_limbs n
  have la := @lt_of_length m n
  have lb := @lt_of_length n m
  generalize limbs m = a at *
  generalize limbs n = b at *
  refine ret_of_awp tab Tryd.func81 rfl rfl (Nat.le_of_ble_eq_true rfl) (fun w0 F0 => ?_)
  repeat' (first
    | (show awpL _ _ _ _ _; first | refine goL ?_ | (refine gdLD rfl rfl (fun _ => ?_) (fun _ => ?_) <;> try (exfalso; omega)) | (refine gdLN rfl rfl (fun _ => ?_) (fun _ => ?_) <;> try (exfalso; omega)) | refine gdL rfl rfl (fun _ => ?_) (fun _ => ?_))
    | (show awp _ _ _ _; first | refine goA ?_ | refine awp_reg 8 8 mixed (by kernel_rfl) ?_ | refine awp_reg 10 8 mixed (by kernel_rfl) ?_ | (refine awp_condD rfl (fun _ => ?_) (fun _ => ?_) <;> try (exfalso; omega)) | (refine awp_condN rfl (fun _ => ?_) (fun _ => ?_) <;> try (exfalso; omega)) | refine awp_cond rfl (fun _ => ?_) (fun _ => ?_))
    | (show andThen _ _ _ _; first | refine goN ?_)
    | (show inBlock _ _ _ _; first | refine goB ?_)
    | (show awpR _ _ _ _ _ _; first | refine goR ?_ | (refine gdRD rfl rfl (fun _ => ?_) (fun _ => ?_) <;> try (exfalso; omega)) | (refine gdRN rfl rfl (fun _ => ?_) (fun _ => ?_) <;> try (exfalso; omega)) | refine gdR rfl rfl (fun _ => ?_) (fun _ => ?_))
    | (show retPost _ _ _ _ _; first | refine finF true rfl rfl sc ?_ | refine finF false rfl rfl sc ?_ | refine finN rfl rfl sc ?_ | refine finL true rfl rfl sc rfl (LeR.cons rfl leL LeR.nil) ?_ | refine finE true rfl rfl sc ?_ | refine finE false rfl rfl sc ?_))
  · have := la (by omega)
    simp only [cmpN, this, if_true]
  · have := lb (by omega)
    simp only [cmpN, show ¬ m < n by omega, this, if_true, if_false]
  · rename_i h
    refine awp_loop1 (fun i : Nat => ([(0, .d (u32s a)), (1, .d (u32s b)), (5, .d (.int .i64 ((i : Int) - 1)))], [])) (fun i => i ≤ a.length ∧ a.drop i = b.drop i) (fun i => i) a.length ⟨Nat.le_refl _, by simp; omega⟩ ⟨rfl, rfl, rfl, rfl⟩ trivial (fun i hi => ?_)
    obtain ⟨h1, h2⟩ := hi
    repeat' (first
      | (show awpL _ _ _ _ _; first | refine goL ?_ | (refine gdLD rfl rfl (fun _ => ?_) (fun _ => ?_) <;> try (exfalso; omega)) | (refine gdLN rfl rfl (fun _ => ?_) (fun _ => ?_) <;> try (exfalso; omega)) | refine gdL rfl rfl (fun _ => ?_) (fun _ => ?_))
      | (show awp _ _ _ _; first | refine goA ?_ | refine awp_reg 8 8 mixed (by kernel_rfl) ?_ | refine awp_reg 10 8 mixed (by kernel_rfl) ?_ | (refine awp_condD rfl (fun _ => ?_) (fun _ => ?_) <;> try (exfalso; omega)) | (refine awp_condN rfl (fun _ => ?_) (fun _ => ?_) <;> try (exfalso; omega)) | refine awp_cond rfl (fun _ => ?_) (fun _ => ?_))
      | (show andThen _ _ _ _; first | refine goN ?_)
      | (show inBlock _ _ _ _; first | refine goB ?_)
      | (show awpR _ _ _ _ _ _; first | refine goR ?_ | (refine gdRD rfl rfl (fun _ => ?_) (fun _ => ?_) <;> try (exfalso; omega)) | (refine gdRN rfl rfl (fun _ => ?_) (fun _ => ?_) <;> try (exfalso; omega)) | refine gdR rfl rfl (fun _ => ?_) (fun _ => ?_))
      | (show retPost _ _ _ _ _; first | refine finF true rfl rfl sc ?_ | refine finF false rfl rfl sc ?_ | refine finN rfl rfl sc ?_ | refine finL true rfl rfl sc rfl (LeR.cons rfl leL LeR.nil) ?_ | refine finE true rfl rfl sc ?_ | refine finE false rfl rfl sc ?_))
    all_goals first | have e : ((i : Int) - 1).toNat = i - 1 := by omega
    · rename_i h3 h7
      have h6 : i - 1 + 1 = i := by omega
      rw [← h6] at h2
      have := val_lt_of wa (by omega) (by omega) h2 (by rw [e] at h7; omega)
      simp [cmpN, show m < n by omega]
    · rename_i h3 h8 h7
      have h6 : i - 1 + 1 = i := by omega
      rw [← h6] at h2
      have := val_lt_of wb (by omega) (by omega) h2.symm (by rw [e] at h7; omega)
      simp [cmpN, show n < m by omega, show ¬ m < n by omega]
    · rename_i h3 h7 h8
      have h6 : i - 1 + 1 = i := by omega
      rw [← h6] at h2
      rw [e] at h7 h8
      have h9 : a.getD (i - 1) 0 = b.getD (i - 1) 0 := by omega
      exact ⟨i - 1, ⟨by omega, drop_eq_of (by omega) (by omega) h2 h9⟩, by omega, ⟨rfl, rfl, iv (by omega), rfl⟩, trivial⟩
    · have : i = 0 := by omega
      subst this
      have : a = b := by simpa using h2
      simp [cmpN, show ¬ n < m by rw [← va, ← vb, this]; omega, show ¬ m < n by rw [← va, ← vb, this]; omega]

theorem add_step {a b l : List Nat} {c s x y : Nat} (ha : WF a) (hb : WF b) (hl : WF l) (hc : c ≤ 1) (hv : val l + c * B ^ l.length = val (a.take l.length) + val (b.take l.length)) (hs : s = a.getD l.length 0 + b.getD l.length 0 + c) (hx : x = s % 4294967296) (hy : y = s / 4294967296) :
    WF (l ++ [x]) ∧ y ≤ 1 ∧ val (l ++ [x]) + y * B ^ (l ++ [x]).length = val (a.take (l ++ [x]).length) + val (b.take (l ++ [x]).length) := by
  subst hx hy
  have h1 := ha.getD l.length
  have h2 := hb.getD l.length
  simp only [B_val] at h1 h2
  refine ⟨hl.snoc (by rw [B_val]; omega), by omega, ?_⟩
  rw [val_snoc, List.length_append, List.length_singleton, val_take_succ, val_take_succ, Nat.pow_succ]
  have h3 : s % 4294967296 + s / 4294967296 * B = s := by rw [B_val]; omega
  have h4 : B ^ l.length * (s % 4294967296) + s / 4294967296 * (B ^ l.length * B) = B ^ l.length * s := by
    conv => rhs; rw [← h3, Nat.mul_add]
    rw [← Nat.mul_assoc, Nat.mul_comm (s / 4294967296), Nat.mul_assoc]
  rw [Nat.add_assoc, h4, hs, Nat.mul_add, Nat.mul_add]
  rw [Nat.mul_comm c] at hv
  omega

theorem ref01_Add (a b : List Nat) (hla : a.length < 100000000000) (hlb : b.length < 100000000000) (wa : WF a) (wb : WF b) : Ret Tryd.prog 64 [u32s a, u32s b] (· = u32s (limbs (nv a + nv b))) := by
  have va : val (takeL a) = nv a := rfl
  have vb : val (takeL b) = nv b := rfl
  have wa' := wf_takeL wa
  have wb' := wf_takeL wb
  have la := takeL_le a
  have lb := takeL_le b
  refine ret_of_awp tab Tryd.func64 rfl rfl (Nat.le_of_ble_eq_true rfl) (fun w0 F0 => ?_)
  repeat' (first
    | (show awpL _ _ _ _ _; first | refine goL ?_ | refine cl 51 tt rfl rfl rfl (hr := ref01_Take _ (by omega)) (k := ?_) | (refine gdLD rfl rfl (fun _ => ?_) (fun _ => ?_) <;> try (exfalso; omega)) | (refine gdLN rfl rfl (fun _ => ?_) (fun _ => ?_) <;> try (exfalso; omega)) | refine gdL rfl rfl (fun _ => ?_) (fun _ => ?_))
    | (show awp _ _ _ _; first | refine goA ?_ | (refine awp_condD rfl (fun _ => ?_) (fun _ => ?_) <;> try (exfalso; omega)) | (refine awp_condN rfl (fun _ => ?_) (fun _ => ?_) <;> try (exfalso; omega)) | refine awp_cond rfl (fun _ => ?_) (fun _ => ?_))
    | (show andThen _ _ _ _; first | refine goN ?_)
    | (show inBlock _ _ _ _; first | refine goB ?_)
    | (show awpR _ _ _ _ _ _; first | refine goR ?_ | refine clR 51 tt rfl rfl rfl (hr := ref01_Take _ (by omega)) (k := ?_) | (refine gdRD rfl rfl (fun _ => ?_) (fun _ => ?_) <;> try (exfalso; omega)) | (refine gdRN rfl rfl (fun _ => ?_) (fun _ => ?_) <;> try (exfalso; omega)) | refine gdR rfl rfl (fun _ => ?_) (fun _ => ?_))
    | (show retPost _ _ _ _ _; first | refine finF true rfl rfl sc ?_ | refine finF false rfl rfl sc ?_ | refine finN rfl rfl sc ?_ | refine finL true rfl rfl sc rfl (LeR.cons rfl leL LeR.nil) ?_ | refine finE true rfl rfl sc ?_ | refine finE false rfl rfl sc ?_))
  generalize takeL a = a' at *
  generalize takeL b = b' at *
  refine awp_adopt 5 35 75 1 (eN .u32) 0 rfl ?_
  refine awp_loop2 (fun (l : List Nat) (c : Nat) => ([(0, .d (u32s a')), (1, .d (u32s b')), (5, .own 35 0 l.length 75 1), (6, .d (.int .u64 c)), (7, .d (.int .i64 l.length))], [(35, .data 75 1 (eN .u32) 0 l)])) (fun l c => l.length ≤ a'.length + b'.length + 1 ∧ WF l ∧ c ≤ 1 ∧ val l + c * B ^ l.length = val (a'.take l.length) + val (b'.take l.length)) (fun l c => a'.length + b'.length + 2 - l.length) [] 0 ⟨by simp, WF.nil, by simp, by simp [val]⟩ ⟨rfl, rfl, rfl, rfl, rfl, rfl⟩ ⟨rfl, trivial⟩ (fun l c hi => ?_)
  obtain ⟨h1, h2, h3, h4⟩ := hi
  have g1 := wa'.getD l.length
  have g2 := wb'.getD l.length
  simp only [B_val] at g1 g2
  repeat' (first
    | (show awpL _ _ _ _ _; first | refine goL ?_ | refine cl 53 tt rfl rfl rfl (hr := ref01_limb _ _ _ (Int.toNat_natCast _) (by omega) wa' (by omega) (by omega)) (k := ?_) | refine cl 53 tt rfl rfl rfl (hr := ref01_limb _ _ _ (Int.toNat_natCast _) (by omega) wb' (by omega) (by omega)) (k := ?_) | refine cl 54 tt rfl rfl rfl (hr := ref01_trim _ (by omega)) (k := ?_) | (refine gdLD rfl rfl (fun _ => ?_) (fun _ => ?_) <;> try (exfalso; omega)) | (refine gdLN rfl rfl (fun _ => ?_) (fun _ => ?_) <;> try (exfalso; omega)) | refine gdL rfl rfl (fun _ => ?_) (fun _ => ?_))
    | (show awp _ _ _ _; first | refine goA ?_ | (refine awp_condD rfl (fun _ => ?_) (fun _ => ?_) <;> try (exfalso; omega)) | (refine awp_condN rfl (fun _ => ?_) (fun _ => ?_) <;> try (exfalso; omega)) | refine awp_cond rfl (fun _ => ?_) (fun _ => ?_))
    | (show andThen _ _ _ _; first | refine goN ?_)
    | (show inBlock _ _ _ _; first | refine goB ?_)
    | (show awpR _ _ _ _ _ _; first | refine goR ?_ | refine clR 53 tt rfl rfl rfl (hr := ref01_limb _ _ _ (Int.toNat_natCast _) (by omega) wa' (by omega) (by omega)) (k := ?_) | refine clR 53 tt rfl rfl rfl (hr := ref01_limb _ _ _ (Int.toNat_natCast _) (by omega) wb' (by omega) (by omega)) (k := ?_) | refine clR 54 tt rfl rfl rfl (hr := ref01_trim _ (by omega)) (k := ?_) | (refine gdRD rfl rfl (fun _ => ?_) (fun _ => ?_) <;> try (exfalso; omega)) | (refine gdRN rfl rfl (fun _ => ?_) (fun _ => ?_) <;> try (exfalso; omega)) | refine gdR rfl rfl (fun _ => ?_) (fun _ => ?_))
    | (show retPost _ _ _ _ _; first | refine finF true rfl rfl sc ?_ | refine finF false rfl rfl sc ?_ | refine finN rfl rfl sc ?_ | refine finL true rfl rfl sc rfl (LeR.cons rfl leL LeR.nil) ?_ | refine finE true rfl rfl sc ?_ | refine finE false rfl rfl sc ?_))
  · rename_i h
    refine ⟨_, (a'.getD l.length 0 + b'.getD l.length 0 + c) / 4294967296, ⟨?_, add_step wa' wb' h2 h3 h4 rfl ?_ rfl⟩, ?_, ⟨rfl, rfl, rfl, iv (by omega), iv (by simp), rfl⟩, rfl, trivial⟩
    · simp only [List.length_append, List.length_singleton]; omega
    · omega
    · simp only [List.length_append, List.length_singleton]; omega
  · rename_i h
    show u32s _ = u32s _
    have g3 := val_lt wa'
    have g4 := val_lt wb'
    have g5 : a'.length + 1 ≤ l.length := by omega
    have g6 : b'.length + 1 ≤ l.length := by omega
    rw [val_take_all a' (by omega), val_take_all b' (by omega)] at h4
    have g7 := Nat.pow_le_pow_right (show 0 < B by decide) g5
    have g8 := Nat.pow_le_pow_right (show 0 < B by decide) g6
    rw [Nat.pow_succ, B_val] at g7 g8
    rw [B_val] at g3 g4 h4
    have g9 : c = 0 := by
      refine Nat.le_zero.1 (Nat.le_of_not_lt fun hc => ?_)
      have := Nat.mul_le_mul_right (4294967296 ^ l.length) (show 1 ≤ c from hc)
      omega
    subst g9
    rw [trimL_limbs h2, show val l = nv a + nv b by omega]
end Go.Proofs.YtcblkjmnigbiiaaDoor
