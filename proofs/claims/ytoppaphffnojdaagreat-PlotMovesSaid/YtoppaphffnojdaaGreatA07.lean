/-
  Contracts of functions of the program, and the layer that they are walked with: R06 N09 RatsC N10 RatsD N11 RatsM Itv N12 Contr R07 Sorts ItvB ItvC ItvD ItvE OrdersA Pdq VZ W14. Conditions: as each says.
-/
import Derived.Sort.AssemblyPlain
import Derived.Test.YtoppaphffnojdaaGreatA06
set_option linter.unusedVariables false
set_option linter.unusedSimpArgs false
namespace Go.Proofs.YtoppaphffnojdaaGreat
open Go.Vw
attribute [local irreducible] awp awpL awpR

theorem ref02_SignZ (z : Int) (h : (limbs z.natAbs).length < 100000000000) : Ret Tryz.prog 89 [zD z] (· = .int .i64 z.sign) := by
  have := ref02_Sign _ _ (IntOk.z h); rw [iv'_z] at this; exact this
theorem ref02_NegZ (z : Int) (h : (limbs z.natAbs).length < 100000000000) : Ret Tryz.prog 92 [zD z] (· = zD (-z)) := by
  have := ref02_Neg _ _ (IntOk.z h); rw [iv'_z] at this; exact this
theorem ref02_AddZ (x y : Int) (h : (limbs x.natAbs).length < 10000000000) (k : (limbs y.natAbs).length < 10000000000) : Ret Tryz.prog 95 [zD x, zD y] (· = zD (x + y)) := by
  have := ref02_Add _ _ _ _ (IntOk.z h) (IntOk.z k); rw [iv'_z, iv'_z] at this; exact this
theorem ref02_MulZ (x y : Int) (h : (limbs x.natAbs).length < 1000000000) (k : (limbs y.natAbs).length < 1000000000) : Ret Tryz.prog 84 [zD x, zD y] (· = zD (x * y)) := by
  have := ref02_Mul _ _ _ _ (IntOk.z h) (IntOk.z k); rw [iv'_z, iv'_z] at this; exact this
theorem ref02_GcdZ (x y : Int) (h : (limbs x.natAbs).length < 10000000) (k : (limbs y.natAbs).length < 10000000) : Ret Tryz.prog 93 [zD x, zD y] (· = u32s (limbs (Int.gcd x y))) := by
  have := ref02_Gcd _ _ _ _ (IntOk.z h) (IntOk.z k); rw [iv'_z, iv'_z] at this; exact this
theorem ref02_DivZ (x y : Int) (h : (limbs x.natAbs).length < 10000000) (k : (limbs y.natAbs).length < 10000000) (h0 : y ≠ 0) : Ret Tryz.prog 81 [zD x, zD y] (· = .tup [zD (x / y), zD (x % y), .bool true]) := by
  have := ref02_Div _ _ _ _ (IntOk.z h) (IntOk.z k) (by rw [iv'_z]; exact h0); rw [iv'_z, iv'_z] at this; exact this
theorem zD_nat (n : Nat) : zD (n : Int) = .agg [.bool false, u32s (limbs n)] := by
  unfold zD intC
  rw [decide_eq_false (by omega), Int.natAbs_natCast]

theorem ref03_one (l : List Nat) (hl : l.length < 1000000000000) : Ret Tryz.prog 94 [u32s l] (· = .bool (decide (l = [1]))) := by
  refine ret_of_awp tab Tryz.func94 rfl rfl (Nat.le_of_ble_eq_true rfl) (fun w0 F0 => ?_)
  repeat' (first
    | (show awpL _ _ _ _ _; first | refine goL ?_ | (refine gdLG ?_ ?_ <;> intro _ <;> try (exfalso; omega)))
    | (show awp _ _ _ _; first | refine goA ?_ | (refine cdG ?_ ?_ <;> intro _ <;> try (exfalso; omega)))
    | (show andThen _ _ _ _; refine goN ?_)
    | (show inBlock _ _ _ _; refine goB ?_)
    | (show retPost _ _ _ _ _; refine finG ?_))
  · rename_i h
    obtain ⟨x, rfl⟩ := List.length_eq_one_iff.1 (show l.length = 1 by omega)
    congr 1
    simp; omega
  · rename_i h
    congr 1
    symm; rw [decide_eq_false_iff_not]
    intro e; subst e; exact h rfl
theorem ref03_Valid (r : R3) (h : RatOk r 10000000) : Ret Tryz.prog 123 [rD r] (· = .bool (validR r)) := by
  obtain ⟨n, m, d⟩ := r
  obtain ⟨wm, wd, lm, ld⟩ := h
  simp only at wm wd lm ld
  have hi := ref02_Valid n m (by omega)
  have hd := ref01_Valid d (by omega)
  have h1 := ref03_one d (by omega)
  have hg := ref01_Gcd m d lm ld wm wd
  have lg : (limbs (Nat.gcd (nv m) (nv d))).length < 1000000000000 := by
    have l1 := length_limbs_nv wm
    have l2 := length_limbs_nv wd
    by_cases h0 : nv m = 0
    · rw [h0, Nat.gcd_zero_left]; omega
    · have := limbs_len_mono (Nat.gcd_le_left (nv d) (Nat.pos_of_ne_zero h0)); omega
  have h2 := ref03_one _ lg
  unfold validR
  generalize hvi : validI n m = vi at *
  generalize hvd : valid d = vd at *
  refine ret_of_awp tab Tryz.func123 rfl rfl (Nat.le_of_ble_eq_true rfl) (fun w0 F0 => ?_)
  repeat' (first
    | (show awpL _ _ _ _ _; first | refine goL ?_ | refine cl 121 tt rfl rfl rfl (hr := hi) (k := ?_) | refine cl 146 tt rfl rfl rfl (hr := hd) (k := ?_) | refine cl 94 tt rfl rfl rfl (hr := h1) (k := ?_) | refine cl 131 tt rfl rfl rfl (hr := hg) (k := ?_) | refine cl 94 tt rfl rfl rfl (hr := h2) (k := ?_) | (refine gdLG ?_ ?_ <;> intro _ <;> try (exfalso; omega)))
    | (show awp _ _ _ _; first | refine goA ?_ | (refine cdG ?_ ?_ <;> intro _ <;> try (exfalso; omega)))
    | (show andThen _ _ _ _; refine goN ?_)
    | (show inBlock _ _ _ _; refine goB ?_)
    | (show retPost _ _ _ _ _; refine finG ?_))
  all_goals
    clear hi hd h1 hg h2
    congr 1
    simp_all
  rename_i hm
  intro _ e; subst e; simp at hm

theorem ref03_Take (r : R3) (h : RatOk r 10000000) : Ret Tryz.prog 80 [rD r] (· = rD (rq (rv r))) := by
  have hv := ref03_Valid r h
  have e := rq_rv (r := r)
  have e0 := rv_invalid (r := r)
  have okq := okQ_rv h (by decide)
  cases hr : validR r with
  | false =>
    rw [hr] at hv
    rw [e0 hr, rq_zero]
    refine ret_of_awp tab Tryz.func80 rfl rfl (Nat.le_of_ble_eq_true rfl) (fun w0 F0 => ?_)
    repeat' (first
      | (show awpL _ _ _ _ _; first | refine goL ?_ | refine cl 123 tt rfl rfl rfl (hr := hv) (k := ?_) | (refine gdLG ?_ ?_ <;> intro _ <;> try (exfalso; omega)))
      | (show awp _ _ _ _; first | refine goA ?_ | refine rg 3 5 ?_ | (refine cdG ?_ ?_ <;> intro _ <;> try (exfalso; omega)))
      | (show andThen _ _ _ _; refine goN ?_)
      | (show inBlock _ _ _ _; refine goB ?_)
      | (show awpR _ _ _ _ _ _ _; first | refine goR ?_ | refine clR 123 tt rfl rfl rfl (hr := hv) (k := ?_) | (refine gdRG ?_ ?_ <;> intro _ <;> try (exfalso; omega)))
      | (show retPost _ _ _ _ _; first | refine finF true rfl rfl sc ?_ | refine finF false rfl rfl sc ?_ | refine finC false rfl rfl sc sc ?_ | refine finN rfl rfl sc ?_ | refine finL true rfl rfl sc rfl (LeR.cons rfl leL LeR.nil) ?_ | refine finA true rfl rfl sc ?_ | refine finA false rfl rfl sc ?_ | refine finE true rfl rfl sc ?_ | refine finE false rfl rfl sc ?_))
    exact leL
  | true =>
    rw [hr] at hv
    have e := e hr h.wm h.wd
    rw [e]
    rw [← e] at hv ⊢
    generalize rv r = q at *
    have ht := ref02_TakeZ q.num (by have := okq.1; omega)
    have hd := ref01_Take (dL q.den) (by have := h.ld; rw [← e] at this; have : (dL q.den).length < 10000000 := this; omega)
    rw [takeL, dL_valid, if_pos rfl] at hd
    refine ret_of_awp tab Tryz.func80 rfl rfl (Nat.le_of_ble_eq_true rfl) (fun w0 F0 => ?_)
    repeat' (first
      | (show awpL _ _ _ _ _; first | refine goL ?_ | refine cl 123 tt rfl rfl rfl (hr := hv) (k := ?_) | refine cl 78 tt rfl rfl rfl (hr := ht) (k := ?_) | refine cl 122 tt rfl rfl rfl (hr := hd) (k := ?_) | (refine gdLG ?_ ?_ <;> intro _ <;> try (exfalso; omega)))
      | (show awp _ _ _ _; first | refine goA ?_ | refine rg 3 5 ?_ | (refine cdG ?_ ?_ <;> intro _ <;> try (exfalso; omega)))
      | (show andThen _ _ _ _; refine goN ?_)
      | (show inBlock _ _ _ _; refine goB ?_)
      | (show awpR _ _ _ _ _ _ _; first | refine goR ?_ | refine clR 123 tt rfl rfl rfl (hr := hv) (k := ?_) | refine clR 78 tt rfl rfl rfl (hr := ht) (k := ?_) | refine clR 122 tt rfl rfl rfl (hr := hd) (k := ?_) | (refine gdRG ?_ ?_ <;> intro _ <;> try (exfalso; omega)))
      | (show retPost _ _ _ _ _; refine finG ?_))
    rfl
theorem ref03_Den (q : Rat) (h : okQ 10000000 q) : Ret Tryz.prog 82 [rD (rq q)] (· = zD q.den) := by
  have hd := ref01_TakeN q.den (by have := h.2; omega)
  rw [zD_nat]
  by_cases h1 : q.den = 1
  · have e : rq q = (decide (q.num < 0), limbs q.num.natAbs, []) := by rw [rq, h1]; rfl
    rw [e, h1, limbs_one]
    refine ret_of_awp tab Tryz.func82 rfl rfl (Nat.le_of_ble_eq_true rfl) (fun w0 F0 => ?_)
    repeat' (first
      | (show awpL _ _ _ _ _; first | refine goL ?_ | (refine gdLG ?_ ?_ <;> intro _ <;> try (exfalso; omega)))
      | (show awp _ _ _ _; first | refine goA ?_ | (refine cdG ?_ ?_ <;> intro _ <;> try (exfalso; omega)))
      | (show andThen _ _ _ _; refine goN ?_)
      | (show inBlock _ _ _ _; refine goB ?_)
      | (show retPost _ _ _ _ _; first | refine finF true rfl rfl sc ?_ | refine finF false rfl rfl sc ?_ | refine finC false rfl rfl sc sc ?_ | refine finN rfl rfl sc ?_ | refine finL true rfl rfl sc rfl (LeR.cons rfl leL LeR.nil) ?_ | refine finA true rfl rfl sc ?_ | refine finA false rfl rfl sc ?_ | refine finE true rfl rfl sc ?_ | refine finE false rfl rfl sc ?_))
    exact leL
  · have e : rq q = (decide (q.num < 0), limbs q.num.natAbs, limbs q.den) := by rw [rq, dL, if_neg h1]
    have l0 : (limbs q.den).length ≠ 0 := fun e => q.den_nz (limbs_eq_nil.1 (List.length_eq_zero_iff.1 e))
    rw [e]
    show Ret _ _ [.agg [.bool (decide (q.num < 0)), u32s (limbs q.num.natAbs), u32s (limbs q.den)]] _
    refine ret_of_awp tab Tryz.func82 rfl rfl (Nat.le_of_ble_eq_true rfl) (fun w0 F0 => ?_)
    repeat' (first
      | (show awpL _ _ _ _ _; first | refine goL ?_ | refine cl 122 tt rfl rfl rfl (hr := hd) (k := ?_) | (refine gdLG ?_ ?_ <;> intro _ <;> try (exfalso; omega)))
      | (show awp _ _ _ _; first | refine goA ?_ | (refine cdG ?_ ?_ <;> intro _ <;> try (exfalso; omega)))
      | (show andThen _ _ _ _; refine goN ?_)
      | (show inBlock _ _ _ _; refine goB ?_)
      | (show retPost _ _ _ _ _; first | refine finF true rfl rfl sc ?_ | refine finF false rfl rfl sc ?_ | refine finC false rfl rfl sc sc ?_ | refine finN rfl rfl sc ?_ | refine finL true rfl rfl sc rfl (LeR.cons rfl leL LeR.nil) ?_ | refine finA true rfl rfl sc ?_ | refine finA false rfl rfl sc ?_ | refine finE true rfl rfl sc ?_ | refine finE false rfl rfl sc ?_))
    exact leL

theorem divInt_parts (a b : Int) (hb : 0 < b) : rq (Rat.divInt a b) = (decide (a / (Int.gcd a b : Nat) < 0), limbs (a / (Int.gcd a b : Nat)).natAbs, dL (b / (Int.gcd a b : Nat)).natAbs) := by
  unfold rq
  rw [Rat.num_divInt, Rat.den_divInt, if_neg (by omega), Int.sign_eq_one_of_pos hb, Int.one_mul, Int.gcd_comm b a]
  have : (b / (Int.gcd a b : Nat)).natAbs = b.natAbs / Int.gcd a b := by
    obtain ⟨n, rfl⟩ := Int.eq_ofNat_of_zero_le (show 0 ≤ b by omega)
    rw [← Int.natCast_ediv, Int.natAbs_natCast, Int.natAbs_natCast]
  rw [this]
theorem over_pos (a b : Int) (hb : 0 < b) (la : (limbs a.natAbs).length < 10000000) (lb : (limbs b.natAbs).length < 10000000) : Ret Tryz.prog 55 [zD a, zD b] (· = rD (rq (Rat.divInt a b))) := by
  have hs := ref02_SignZ b (by omega)
  rw [Int.sign_eq_one_of_pos hb] at hs
  have hg := ref02_GcdZ a b la lb
  have g0 : Int.gcd a b ≠ 0 := fun e => by have := Int.eq_zero_of_gcd_eq_zero_right e; omega
  have lg : (limbs ((Int.gcd a b : Nat) : Int).natAbs).length < 10000000 := by
    rw [Int.natAbs_natCast]
    exact len_bound (Nat.le_of_dvd (by omega) (Int.gcd_dvd_natAbs_right a b)) lb
  have h1 := ref02_DivZ a (Int.gcd a b : Nat) la lg (by omega)
  have h2 := ref02_DivZ b (Int.gcd a b : Nat) lb lg (by omega)
  rw [zD_nat] at h1 h2
  have ho := ref03_one (limbs (b / (Int.gcd a b : Nat)).natAbs) (by
    have := limbs_len_mono (m := (b / (Int.gcd a b : Nat)).natAbs) (n := b.natAbs) (by
      rw [Int.natAbs_ediv_of_nonneg (by omega)]
      exact Nat.div_le_self _ _)
    omega)
  rw [divInt_parts a b hb]
  show Ret _ _ _ (· = .agg [.bool (decide (a / (Int.gcd a b : Nat) < 0)), u32s (limbs (a / (Int.gcd a b : Nat)).natAbs), u32s (dL (b / (Int.gcd a b : Nat)).natAbs)])
  generalize a / (Int.gcd a b : Nat) = x at *
  generalize b / (Int.gcd a b : Nat) = y at *
  refine ret_of_awp tab Tryz.func55 rfl rfl (Nat.le_of_ble_eq_true rfl) (fun w0 F0 => ?_)
  repeat' (first
    | (show awpL _ _ _ _ _; first | refine goL ?_ | refine cl 89 tt rfl rfl rfl (hr := hs) (k := ?_) | refine cl 93 tt rfl rfl rfl (hr := hg) (k := ?_) | refine cl 81 tt rfl rfl rfl (hr := h1) (k := ?_) | refine cl 81 tt rfl rfl rfl (hr := h2) (k := ?_) | refine cl 94 tt rfl rfl rfl (hr := ho) (k := ?_) | (refine gdLG ?_ ?_ <;> intro _ <;> try (exfalso; omega)))
    | (show awp _ _ _ _; first | refine goA ?_ | refine rg 2 3 ?_ | (refine cdG ?_ ?_ <;> intro _ <;> try (exfalso; omega)))
    | (show andThen _ _ _ _; refine goN ?_)
    | (show inBlock _ _ _ _; refine goB ?_)
    | (show awpR _ _ _ _ _ _ _; first | refine goR ?_ | refine clR 89 tt rfl rfl rfl (hr := hs) (k := ?_) | refine clR 93 tt rfl rfl rfl (hr := hg) (k := ?_) | refine clR 81 tt rfl rfl rfl (hr := h1) (k := ?_) | refine clR 81 tt rfl rfl rfl (hr := h2) (k := ?_) | refine clR 94 tt rfl rfl rfl (hr := ho) (k := ?_) | (refine gdRG ?_ ?_ <;> intro _ <;> try (exfalso; omega)))
    | (show retPost _ _ _ _ _; first | refine finF true rfl rfl sc ?_ | refine finF false rfl rfl sc ?_ | refine finC false rfl rfl sc sc ?_ | refine finN rfl rfl sc ?_ | refine finL true rfl rfl sc rfl (LeR.cons rfl leL LeR.nil) ?_ | refine finA true rfl rfl sc ?_ | refine finA false rfl rfl sc ?_ | refine finE true rfl rfl sc ?_ | refine finE false rfl rfl sc ?_))
  · rename_i e
    rw [show dL y.natAbs = [] by rw [dL, if_pos (limbs_inj (e.trans limbs_one.symm))]]
    exact leL
  · rename_i e
    rw [show dL y.natAbs = limbs y.natAbs by rw [dL, if_neg (fun h => e (by rw [h, limbs_one]))]]
    exact leL
theorem over_neg (a b : Int) (hb : b < 0) (la : (limbs a.natAbs).length < 10000000) (lb : (limbs b.natAbs).length < 10000000) : Ret Tryz.prog 55 [zD a, zD b] (· = rD (rq (Rat.divInt a b))) := by
  have hs := ref02_SignZ b (by omega)
  rw [Int.sign_eq_neg_one_of_neg hb] at hs
  have na := ref02_NegZ a (by omega)
  have nb := ref02_NegZ b (by omega)
  rw [← Rat.neg_divInt_neg]
  have hb : 0 < -b := by omega
  rw [← Int.natAbs_neg] at la lb
  generalize -a = a' at *
  generalize -b = b' at *
  have hg := ref02_GcdZ a' b' la lb
  have g0 : Int.gcd a' b' ≠ 0 := fun e => by have := Int.eq_zero_of_gcd_eq_zero_right e; omega
  have lg : (limbs ((Int.gcd a' b' : Nat) : Int).natAbs).length < 10000000 := by
    rw [Int.natAbs_natCast]
    exact len_bound (Nat.le_of_dvd (by omega) (Int.gcd_dvd_natAbs_right a' b')) lb
  have h1 := ref02_DivZ a' (Int.gcd a' b' : Nat) la lg (by omega)
  have h2 := ref02_DivZ b' (Int.gcd a' b' : Nat) lb lg (by omega)
  rw [zD_nat] at h1 h2
  have ho := ref03_one (limbs (b' / (Int.gcd a' b' : Nat)).natAbs) (by
    have := limbs_len_mono (m := (b' / (Int.gcd a' b' : Nat)).natAbs) (n := b'.natAbs) (by
      rw [Int.natAbs_ediv_of_nonneg (by omega)]
      exact Nat.div_le_self _ _)
    omega)
  rw [divInt_parts a' b' hb]
  show Ret _ _ _ (· = .agg [.bool (decide (a' / (Int.gcd a' b' : Nat) < 0)), u32s (limbs (a' / (Int.gcd a' b' : Nat)).natAbs), u32s (dL (b' / (Int.gcd a' b' : Nat)).natAbs)])
  generalize a' / (Int.gcd a' b' : Nat) = x at *
  generalize b' / (Int.gcd a' b' : Nat) = y at *
  refine ret_of_awp tab Tryz.func55 rfl rfl (Nat.le_of_ble_eq_true rfl) (fun w0 F0 => ?_)
  repeat' (first
    | (show awpL _ _ _ _ _; first | refine goL ?_ | refine cl 89 tt rfl rfl rfl (hr := hs) (k := ?_) | refine cl 92 tt rfl rfl rfl (hr := na) (k := ?_) | refine cl 92 tt rfl rfl rfl (hr := nb) (k := ?_) | refine cl 93 tt rfl rfl rfl (hr := hg) (k := ?_) | refine cl 81 tt rfl rfl rfl (hr := h1) (k := ?_) | refine cl 81 tt rfl rfl rfl (hr := h2) (k := ?_) | refine cl 94 tt rfl rfl rfl (hr := ho) (k := ?_) | (refine gdLG ?_ ?_ <;> intro _ <;> try (exfalso; omega)))
    | (show awp _ _ _ _; first | refine goA ?_ | refine rg 2 3 ?_ | (refine cdG ?_ ?_ <;> intro _ <;> try (exfalso; omega)))
    | (show andThen _ _ _ _; refine goN ?_)
    | (show inBlock _ _ _ _; refine goB ?_)
    | (show awpR _ _ _ _ _ _ _; first | refine goR ?_ | refine clR 89 tt rfl rfl rfl (hr := hs) (k := ?_) | refine clR 92 tt rfl rfl rfl (hr := na) (k := ?_) | refine clR 92 tt rfl rfl rfl (hr := nb) (k := ?_) | refine clR 93 tt rfl rfl rfl (hr := hg) (k := ?_) | refine clR 81 tt rfl rfl rfl (hr := h1) (k := ?_) | refine clR 81 tt rfl rfl rfl (hr := h2) (k := ?_) | refine clR 94 tt rfl rfl rfl (hr := ho) (k := ?_) | (refine gdRG ?_ ?_ <;> intro _ <;> try (exfalso; omega)))
    | (show retPost _ _ _ _ _; first | refine finF true rfl rfl sc ?_ | refine finF false rfl rfl sc ?_ | refine finC false rfl rfl sc sc ?_ | refine finN rfl rfl sc ?_ | refine finL true rfl rfl sc rfl (LeR.cons rfl leL LeR.nil) ?_ | refine finA true rfl rfl sc ?_ | refine finA false rfl rfl sc ?_ | refine finE true rfl rfl sc ?_ | refine finE false rfl rfl sc ?_))
  · rename_i e
    rw [show dL y.natAbs = [] by rw [dL, if_pos (limbs_inj (e.trans limbs_one.symm))]]
    exact leL
  · rename_i e
    rw [show dL y.natAbs = limbs y.natAbs by rw [dL, if_neg (fun h => e (by rw [h, limbs_one]))]]
    exact leL
theorem ref03_over (a b : Int) (hb : b ≠ 0) (la : (limbs a.natAbs).length < 10000000) (lb : (limbs b.natAbs).length < 10000000) : Ret Tryz.prog 55 [zD a, zD b] (· = rD (rq (Rat.divInt a b))) := by
  rcases Int.lt_or_gt_of_ne hb with h | h
  · exact over_neg a b h la lb
  · exact over_pos a b h la lb

theorem ref03_Add (r t : R3) (hr : RatOk r 1000000) (ht : RatOk t 1000000) : Ret Tryz.prog 56 [rD r, rD t] (· = rD (rq (rv r + rv t))) := by
  have tr := ref03_Take r ⟨hr.wm, hr.wd, by have := hr.lm; omega, by have := hr.ld; omega⟩
  have tk := ref03_Take t ⟨ht.wm, ht.wd, by have := ht.lm; omega, by have := ht.ld; omega⟩
  have or := okQ_rv hr (by decide)
  have ot := okQ_rv ht (by decide)
  generalize rv r = x at *
  generalize rv t = y at *
  have dx := ref03_Den x (or.mono (by decide))
  have dy := ref03_Den y (ot.mono (by decide))
  obtain ⟨x1, x2⟩ := or
  obtain ⟨y1, y2⟩ := ot
  have m1 := ref02_MulZ x.num y.den (by omega) (by rw [Int.natAbs_natCast]; omega)
  have m2 := ref02_MulZ y.num x.den (by omega) (by rw [Int.natAbs_natCast]; omega)
  have m3 := ref02_MulZ x.den y.den (by rw [Int.natAbs_natCast]; omega) (by rw [Int.natAbs_natCast]; omega)
  have l1 := ln_mul x.num.natAbs y.den
  have l2 := ln_mul y.num.natAbs x.den
  have l3 := ln_mul x.den y.den
  simp only [ln] at l1 l2 l3
  have e1 : (x.num * (y.den : Int)).natAbs = x.num.natAbs * y.den := by rw [Int.natAbs_mul, Int.natAbs_natCast]
  have e2 : (y.num * (x.den : Int)).natAbs = y.num.natAbs * x.den := by rw [Int.natAbs_mul, Int.natAbs_natCast]
  have e3 : ((x.den : Int) * (y.den : Int)).natAbs = x.den * y.den := by rw [Int.natAbs_mul, Int.natAbs_natCast, Int.natAbs_natCast]
  have a1 := ref02_AddZ (x.num * y.den) (y.num * x.den) (by rw [e1]; omega) (by rw [e2]; omega)
  have l4 := ln_mono (Int.natAbs_add_le (x.num * y.den) (y.num * x.den))
  have l5 := ln_add (x.num * (y.den : Int)).natAbs (y.num * (x.den : Int)).natAbs
  simp only [ln] at l4 l5
  rw [e1, e2] at l4 l5
  have o := ref03_over (x.num * y.den + y.num * x.den) (x.den * y.den) (by have := x.den_nz; have := y.den_nz; simp; omega) (by omega) (by rw [e3]; omega)
  rw [show Rat.divInt (x.num * y.den + y.num * x.den) ((x.den : Int) * y.den) = x + y by rw [Rat.add_def', ← Rat.divInt_ofNat]; simp] at o
  refine ret_of_awp tab Tryz.func56 rfl rfl (Nat.le_of_ble_eq_true rfl) (fun w0 F0 => ?_)
  repeat' (first
    | (show awpL _ _ _ _ _; first | refine goL ?_ | refine cl 80 tt rfl rfl rfl (hr := tr) (k := ?_) | refine cl 80 tt rfl rfl rfl (hr := tk) (k := ?_) | refine cl 82 tt rfl rfl rfl (hr := dx) (k := ?_) | refine cl 82 tt rfl rfl rfl (hr := dy) (k := ?_) | refine cl 84 tt rfl rfl rfl (hr := m1) (k := ?_) | refine cl 84 tt rfl rfl rfl (hr := m2) (k := ?_) | refine cl 84 tt rfl rfl rfl (hr := m3) (k := ?_) | refine cl 95 tt rfl rfl rfl (hr := a1) (k := ?_) | refine cl 55 tt rfl rfl rfl (hr := o) (k := ?_) | (refine gdLG ?_ ?_ <;> intro _ <;> try (exfalso; omega)))
    | (show awp _ _ _ _; first | refine goA ?_ | refine rg 1 3 ?_ | refine rg 2 14 ?_ | (refine cdG ?_ ?_ <;> intro _ <;> try (exfalso; omega)))
    | (show andThen _ _ _ _; refine goN ?_)
    | (show inBlock _ _ _ _; refine goB ?_)
    | (show awpR _ _ _ _ _ _ _; first | refine goR ?_ | refine clR 80 tt rfl rfl rfl (hr := tr) (k := ?_) | refine clR 80 tt rfl rfl rfl (hr := tk) (k := ?_) | refine clR 82 tt rfl rfl rfl (hr := dx) (k := ?_) | refine clR 82 tt rfl rfl rfl (hr := dy) (k := ?_) | refine clR 84 tt rfl rfl rfl (hr := m1) (k := ?_) | refine clR 84 tt rfl rfl rfl (hr := m2) (k := ?_) | refine clR 84 tt rfl rfl rfl (hr := m3) (k := ?_) | refine clR 95 tt rfl rfl rfl (hr := a1) (k := ?_) | refine clR 55 tt rfl rfl rfl (hr := o) (k := ?_) | (refine gdRG ?_ ?_ <;> intro _ <;> try (exfalso; omega)))
    | (show retPost _ _ _ _ _; refine finG ?_))
  rfl
theorem ref03_Mul (r t : R3) (hr : RatOk r 1000000) (ht : RatOk t 1000000) : Ret Tryz.prog 41 [rD r, rD t] (· = rD (rq (rv r * rv t))) := by
  have tr := ref03_Take r ⟨hr.wm, hr.wd, by have := hr.lm; omega, by have := hr.ld; omega⟩
  have tk := ref03_Take t ⟨ht.wm, ht.wd, by have := ht.lm; omega, by have := ht.ld; omega⟩
  have or := okQ_rv hr (by decide)
  have ot := okQ_rv ht (by decide)
  generalize rv r = x at *
  generalize rv t = y at *
  have dx := ref03_Den x (or.mono (by decide))
  have dy := ref03_Den y (ot.mono (by decide))
  obtain ⟨x1, x2⟩ := or
  obtain ⟨y1, y2⟩ := ot
  have m1 := ref02_MulZ x.num y.num (by omega) (by omega)
  have m3 := ref02_MulZ x.den y.den (by rw [Int.natAbs_natCast]; omega) (by rw [Int.natAbs_natCast]; omega)
  have l1 := ln_mul x.num.natAbs y.num.natAbs
  have l3 := ln_mul x.den y.den
  simp only [ln] at l1 l3
  have e1 : (x.num * y.num).natAbs = x.num.natAbs * y.num.natAbs := Int.natAbs_mul _ _
  have e3 : ((x.den : Int) * (y.den : Int)).natAbs = x.den * y.den := by rw [Int.natAbs_mul, Int.natAbs_natCast, Int.natAbs_natCast]
  have o := ref03_over (x.num * y.num) (x.den * y.den) (by have := x.den_nz; have := y.den_nz; simp; omega) (by rw [e1]; omega) (by rw [e3]; omega)
  rw [show Rat.divInt (x.num * y.num) ((x.den : Int) * y.den) = x * y by rw [Rat.mul_def', ← Rat.divInt_ofNat]; simp] at o
  refine ret_of_awp tab Tryz.func41 rfl rfl (Nat.le_of_ble_eq_true rfl) (fun w0 F0 => ?_)
  repeat' (first
    | (show awpL _ _ _ _ _; first | refine goL ?_ | refine cl 80 tt rfl rfl rfl (hr := tr) (k := ?_) | refine cl 80 tt rfl rfl rfl (hr := tk) (k := ?_) | refine cl 82 tt rfl rfl rfl (hr := dx) (k := ?_) | refine cl 82 tt rfl rfl rfl (hr := dy) (k := ?_) | refine cl 84 tt rfl rfl rfl (hr := m1) (k := ?_) | refine cl 84 tt rfl rfl rfl (hr := m3) (k := ?_) | refine cl 55 tt rfl rfl rfl (hr := o) (k := ?_) | (refine gdLG ?_ ?_ <;> intro _ <;> try (exfalso; omega)))
    | (show awp _ _ _ _; first | refine goA ?_ | refine rg 1 3 ?_ | refine rg 2 8 ?_ | (refine cdG ?_ ?_ <;> intro _ <;> try (exfalso; omega)))
    | (show andThen _ _ _ _; refine goN ?_)
    | (show inBlock _ _ _ _; refine goB ?_)
    | (show awpR _ _ _ _ _ _ _; first | refine goR ?_ | refine clR 80 tt rfl rfl rfl (hr := tr) (k := ?_) | refine clR 80 tt rfl rfl rfl (hr := tk) (k := ?_) | refine clR 82 tt rfl rfl rfl (hr := dx) (k := ?_) | refine clR 82 tt rfl rfl rfl (hr := dy) (k := ?_) | refine clR 84 tt rfl rfl rfl (hr := m1) (k := ?_) | refine clR 84 tt rfl rfl rfl (hr := m3) (k := ?_) | refine clR 55 tt rfl rfl rfl (hr := o) (k := ?_) | (refine gdRG ?_ ?_ <;> intro _ <;> try (exfalso; omega)))
    | (show retPost _ _ _ _ _; refine finG ?_))
  rfl
theorem ref03_Quo (r t : R3) (hr : RatOk r 1000000) (ht : RatOk t 1000000) (h0 : rv t ≠ 0) : Ret Tryz.prog 126 [rD r, rD t] (· = rD (rq (rv r / rv t))) := by
  have tr := ref03_Take r ⟨hr.wm, hr.wd, by have := hr.lm; omega, by have := hr.ld; omega⟩
  have tk := ref03_Take t ⟨ht.wm, ht.wd, by have := ht.lm; omega, by have := ht.ld; omega⟩
  have or := okQ_rv hr (by decide)
  have ot := okQ_rv ht (by decide)
  generalize rv r = x at *
  generalize rv t = y at *
  have dx := ref03_Den x (or.mono (by decide))
  have dy := ref03_Den y (ot.mono (by decide))
  obtain ⟨x1, x2⟩ := or
  obtain ⟨y1, y2⟩ := ot
  have hy : y.num ≠ 0 := mt Rat.num_eq_zero.1 h0
  have m1 := ref02_MulZ x.num y.den (by omega) (by rw [Int.natAbs_natCast]; omega)
  have m3 := ref02_MulZ x.den y.num (by rw [Int.natAbs_natCast]; omega) (by omega)
  have l1 := ln_mul x.num.natAbs y.den
  have l3 := ln_mul x.den y.num.natAbs
  simp only [ln] at l1 l3
  have e1 : (x.num * (y.den : Int)).natAbs = x.num.natAbs * y.den := by rw [Int.natAbs_mul, Int.natAbs_natCast]
  have e3 : ((x.den : Int) * y.num).natAbs = x.den * y.num.natAbs := by rw [Int.natAbs_mul, Int.natAbs_natCast]
  have o := ref03_over (x.num * y.den) (x.den * y.num) (by have := x.den_nz; exact Int.mul_ne_zero (by omega) hy) (by rw [e1]; omega) (by rw [e3]; omega)
  rw [show Rat.divInt (x.num * y.den) ((x.den : Int) * y.num) = x / y by
    rw [Rat.div_def]
    conv => rhs; rw [← Rat.num_divInt_den x, ← Rat.num_divInt_den y]
    rw [Rat.inv_divInt, Rat.divInt_mul_divInt]] at o
  refine ret_of_awp tab Tryz.func126 rfl rfl (Nat.le_of_ble_eq_true rfl) (fun w0 F0 => ?_)
  repeat' (first
    | (show awpL _ _ _ _ _; first | refine goL ?_ | refine cl 80 tt rfl rfl rfl (hr := tr) (k := ?_) | refine cl 80 tt rfl rfl rfl (hr := tk) (k := ?_) | refine cl 82 tt rfl rfl rfl (hr := dx) (k := ?_) | refine cl 82 tt rfl rfl rfl (hr := dy) (k := ?_) | refine cl 84 tt rfl rfl rfl (hr := m1) (k := ?_) | refine cl 84 tt rfl rfl rfl (hr := m3) (k := ?_) | refine cl 55 tt rfl rfl rfl (hr := o) (k := ?_) | (refine gdLG ?_ ?_ <;> intro _ <;> try (exfalso; omega)))
    | (show awp _ _ _ _; first | refine goA ?_ | refine rg 1 3 ?_ | refine rg 2 9 ?_ | (refine cdG ?_ ?_ <;> intro _ <;> try (exfalso; omega)))
    | (show andThen _ _ _ _; refine goN ?_)
    | (show inBlock _ _ _ _; refine goB ?_)
    | (show awpR _ _ _ _ _ _ _; first | refine goR ?_ | refine clR 80 tt rfl rfl rfl (hr := tr) (k := ?_) | refine clR 80 tt rfl rfl rfl (hr := tk) (k := ?_) | refine clR 82 tt rfl rfl rfl (hr := dx) (k := ?_) | refine clR 82 tt rfl rfl rfl (hr := dy) (k := ?_) | refine clR 84 tt rfl rfl rfl (hr := m1) (k := ?_) | refine clR 84 tt rfl rfl rfl (hr := m3) (k := ?_) | refine clR 55 tt rfl rfl rfl (hr := o) (k := ?_) | (refine gdRG ?_ ?_ <;> intro _ <;> try (exfalso; omega)))
    | (show retPost _ _ _ _ _; refine finG ?_))
  rfl
theorem ref03_Sign (r : R3) (hr : RatOk r 1000000) : Ret Tryz.prog 50 [rD r] (· = .int .i64 (rv r).num.sign) := by
  have tr := ref03_Take r ⟨hr.wm, hr.wd, by have := hr.lm; omega, by have := hr.ld; omega⟩
  have or := okQ_rv hr (by decide)
  generalize rv r = x at *
  have hs := ref02_SignZ x.num (by have := or.1; omega)
  refine ret_of_awp tab Tryz.func50 rfl rfl (Nat.le_of_ble_eq_true rfl) (fun w0 F0 => ?_)
  repeat' (first
    | (show awpL _ _ _ _ _; first | refine goL ?_ | refine cl 80 tt rfl rfl rfl (hr := tr) (k := ?_) | refine cl 89 tt rfl rfl rfl (hr := hs) (k := ?_) | (refine gdLG ?_ ?_ <;> intro _ <;> try (exfalso; omega)))
    | (show awp _ _ _ _; first | refine goA ?_ | (refine cdG ?_ ?_ <;> intro _ <;> try (exfalso; omega)))
    | (show andThen _ _ _ _; refine goN ?_)
    | (show inBlock _ _ _ _; refine goB ?_)
    | (show retPost _ _ _ _ _; refine finG ?_))
  rfl
theorem ref03_Neg (r : R3) (hr : RatOk r 1000000) : Ret Tryz.prog 85 [rD r] (· = rD (rq (-rv r))) := by
  have tr := ref03_Take r ⟨hr.wm, hr.wd, by have := hr.lm; omega, by have := hr.ld; omega⟩
  have or := okQ_rv hr (by decide)
  generalize rv r = x at *
  have hs := ref02_NegZ x.num (by have := or.1; omega)
  have e : rq (-x) = (decide (-x.num < 0), limbs (-x.num).natAbs, dL x.den) := rfl
  rw [e]
  refine ret_of_awp tab Tryz.func85 rfl rfl (Nat.le_of_ble_eq_true rfl) (fun w0 F0 => ?_)
  repeat' (first
    | (show awpL _ _ _ _ _; first | refine goL ?_ | refine cl 80 tt rfl rfl rfl (hr := tr) (k := ?_) | refine cl 92 tt rfl rfl rfl (hr := hs) (k := ?_) | (refine gdLG ?_ ?_ <;> intro _ <;> try (exfalso; omega)))
    | (show awp _ _ _ _; first | refine goA ?_ | refine rg 2 5 ?_ | (refine cdG ?_ ?_ <;> intro _ <;> try (exfalso; omega)))
    | (show andThen _ _ _ _; refine goN ?_)
    | (show inBlock _ _ _ _; refine goB ?_)
    | (show awpR _ _ _ _ _ _ _; first | refine goR ?_ | refine clR 80 tt rfl rfl rfl (hr := tr) (k := ?_) | refine clR 92 tt rfl rfl rfl (hr := hs) (k := ?_) | (refine gdRG ?_ ?_ <;> intro _ <;> try (exfalso; omega)))
    | (show retPost _ _ _ _ _; refine finG ?_))
  rfl
theorem ok_rq {q : Rat} {k : Nat} (h : okQ k q) : RatOk (rq q) k := by
  refine ⟨(wf_rq q).1, (wf_rq q).2, h.1, ?_⟩
  show (dL q.den).length < k
  unfold dL; split
  · exact Nat.lt_of_le_of_lt (Nat.zero_le _) h.1
  · exact h.2
theorem ref03_AddQ (x y : Rat) (hx : okQ 1000000 x) (hy : okQ 1000000 y) : Ret Tryz.prog 56 [rD (rq x), rD (rq y)] (· = rD (rq (x + y))) := by
  have := ref03_Add (rq x) (rq y) (ok_rq hx) (ok_rq hy)
  rw [rv_rq, rv_rq] at this; exact this
theorem ref03_MulQ (x y : Rat) (hx : okQ 1000000 x) (hy : okQ 1000000 y) : Ret Tryz.prog 41 [rD (rq x), rD (rq y)] (· = rD (rq (x * y))) := by
  have := ref03_Mul (rq x) (rq y) (ok_rq hx) (ok_rq hy)
  rw [rv_rq, rv_rq] at this; exact this
theorem ref03_SignQ (x : Rat) (hx : okQ 1000000 x) : Ret Tryz.prog 50 [rD (rq x)] (· = .int .i64 x.num.sign) := by
  have := ref03_Sign (rq x) (ok_rq hx)
  rw [rv_rq] at this; exact this
theorem ref03_QuoQ (x y : Rat) (hx : okQ 1000000 x) (hy : okQ 1000000 y) (h0 : y ≠ 0) : Ret Tryz.prog 126 [rD (rq x), rD (rq y)] (· = rD (rq (x / y))) := by
  have := ref03_Quo (rq x) (rq y) (ok_rq hx) (ok_rq hy) (by rw [rv_rq]; exact h0)
  rw [rv_rq, rv_rq] at this; exact this
theorem ref03_NegQ (x : Rat) (hx : okQ 1000000 x) : Ret Tryz.prog 85 [rD (rq x)] (· = rD (rq (-x))) := by
  have := ref03_Neg (rq x) (ok_rq hx)
  rw [rv_rq] at this; exact this
end Go.Proofs.YtoppaphffnojdaaGreat

set_option linter.unusedVariables false
set_option linter.unusedSimpArgs false
namespace Go.Proofs.YtoppaphffnojdaaGreat
open Go.Vw
attribute [local irreducible] awp awpL awpR

theorem rational_one : Ret Tryz.prog 116 [] (· = u32s [1]) := by
  refine ret_of_awp tab Tryz.func116 rfl rfl (Nat.le_of_ble_eq_true rfl) (fun w0 F0 => ?_)
  repeat' (first
    | (show awpL _ _ _ _ _; first | refine goL ?_ | (refine gdLG ?_ ?_ <;> intro _ <;> try (exfalso; omega)))
    | (show awp _ _ _ _; first | refine goA ?_ | (refine cdG ?_ ?_ <;> intro _ <;> try (exfalso; omega)))
    | (show andThen _ _ _ _; refine goN ?_)
    | (show inBlock _ _ _ _; refine goB ?_)
    | (show retPost _ _ _ _ _; refine finG ?_))
  rfl
theorem nv_one : nv [1] = 1 := by decide
theorem natural_CompareOne (d : List Nat) (wd : WF d) (hl : d.length < 1000000000) : Ret Tryz.prog 118 [u32s d, u32s [1]] (· = .int .i64 (cmpN (nv d) 1)) := by
  have := natural_Compare d [1] wd (by intro x hx; simp at hx; subst hx; decide) hl (by decide)
  rw [nv_one] at this
  exact this
theorem rational_Valid (r : R3) (h : RatOk r 10000000) : Ret Tryz.prog 112 [rD r] (· = .bool (validR r)) := by
  obtain ⟨n, m, d⟩ := r
  obtain ⟨wm, wd, lm, ld⟩ := h
  simp only at wm wd lm ld
  have hi := integer_Valid n m (by omega)
  have hd := natural_Valid d (by omega)
  have h1 := rational_one
  have hc := natural_CompareOne d wd (by omega)
  unfold validR
  cases hvi : validI n m with
  | false =>
    rw [hvi] at hi
    refine ret_of_awp tab Tryz.func112 rfl rfl (Nat.le_of_ble_eq_true rfl) (fun w0 F0 => ?_)
    repeat' (first
      | (show awpL _ _ _ _ _; first | refine goL ?_ | refine cl 110 tt rfl rfl rfl (hr := hi) (k := ?_) | (refine gdLG ?_ ?_ <;> intro _ <;> try (exfalso; omega)))
      | (show awp _ _ _ _; first | refine goA ?_ | refine rg 5 9 ?_ | (refine cdG ?_ ?_ <;> intro _ <;> try (exfalso; omega)))
      | (show andThen _ _ _ _; refine goN ?_)
      | (show inBlock _ _ _ _; refine goB ?_)
      | (show awpR _ _ _ _ _ _ _; first | refine goR ?_ | refine clR 110 tt rfl rfl rfl (hr := hi) (k := ?_) | (refine gdRG ?_ ?_ <;> intro _ <;> try (exfalso; omega)))
      | (show retPost _ _ _ _ _; refine finG ?_))
    rfl
  | true =>
    rw [hvi] at hi
    cases hvd : valid d with
    | false =>
      rw [hvd] at hd
      refine ret_of_awp tab Tryz.func112 rfl rfl (Nat.le_of_ble_eq_true rfl) (fun w0 F0 => ?_)
      repeat' (first
        | (show awpL _ _ _ _ _; first | refine goL ?_ | refine cl 110 tt rfl rfl rfl (hr := hi) (k := ?_) | refine cl 140 tt rfl rfl rfl (hr := hd) (k := ?_) | (refine gdLG ?_ ?_ <;> intro _ <;> try (exfalso; omega)))
        | (show awp _ _ _ _; first | refine goA ?_ | refine rg 5 9 ?_ | (refine cdG ?_ ?_ <;> intro _ <;> try (exfalso; omega)))
        | (show andThen _ _ _ _; refine goN ?_)
        | (show inBlock _ _ _ _; refine goB ?_)
        | (show awpR _ _ _ _ _ _ _; first | refine goR ?_ | refine clR 110 tt rfl rfl rfl (hr := hi) (k := ?_) | refine clR 140 tt rfl rfl rfl (hr := hd) (k := ?_) | (refine gdRG ?_ ?_ <;> intro _ <;> try (exfalso; omega)))
        | (show retPost _ _ _ _ _; refine finG ?_))
      rfl
    | true =>
      rw [hvd] at hd
      have hm : valid m = true := by unfold validI at hvi; simp at hvi; exact hvi.1
      have em := limbs_nv wm hm
      have ed := limbs_nv wd hvd
      have hg := natural_GcdN (nv m) (nv d) (by rw [em]; exact lm) (by rw [ed]; exact ld)
      have lg : (limbs (Nat.gcd (nv m) (nv d))).length < 1000000000 := by
        by_cases h0 : nv m = 0
        · rw [h0, Nat.gcd_zero_left, ed]; omega
        · have := limbs_len_mono (Nat.gcd_le_left (nv d) (Nat.pos_of_ne_zero h0)); rw [em] at this; omega
      have hc2 := natural_CompareOne (limbs (Nat.gcd (nv m) (nv d))) (wf_limbs _) lg
      rw [nv_limbs] at hc2
      rw [em, ed] at hg
      have z1 := cmpN_zero (nv d) 1
      have z2 := cmpN_zero (Nat.gcd (nv m) (nv d)) 1
      have e1 : d = [1] ↔ nv d = 1 := ⟨fun e => by rw [e]; exact nv_one, fun e => by rw [← ed, e, limbs_one]⟩
      have e2 : limbs (Nat.gcd (nv m) (nv d)) = [1] ↔ Nat.gcd (nv m) (nv d) = 1 := ⟨fun e => limbs_inj (e.trans limbs_one.symm), fun e => by rw [e, limbs_one]⟩
      have e3 : d = [] ↔ d.length = 0 := List.length_eq_zero_iff.symm
      have e4 : m = [] ↔ m.length = 0 := List.length_eq_zero_iff.symm
      rw [show decide (d = [1]) = decide (cmpN (nv d) 1 = 0) from decide_eq_decide.2 (e1.trans z1.symm), show decide (d = []) = decide (d.length = 0) from decide_eq_decide.2 e3, show decide (limbs (Nat.gcd (nv m) (nv d)) = [1]) = decide (cmpN (Nat.gcd (nv m) (nv d)) 1 = 0) from decide_eq_decide.2 (e2.trans z2.symm), show decide (m ≠ []) = decide (m.length ≠ 0) from decide_eq_decide.2 (not_congr e4)]
      have e5 : d.length = 0 → cmpN (nv d) 1 ≠ 0 := fun h => by
        have : nv d = 0 := by rw [e3.2 h]; rfl
        rw [ne_eq, z1]; omega
      clear e1 e2 e3 e4 em ed z1 z2
      generalize cmpN (nv d) 1 = c1 at *
      generalize cmpN (Nat.gcd (nv m) (nv d)) 1 = c2 at *
      refine ret_of_awp tab Tryz.func112 rfl rfl (Nat.le_of_ble_eq_true rfl) (fun w0 F0 => ?_)
      repeat' (first
        | (show awpL _ _ _ _ _; first | refine goL ?_ | refine cl 110 tt rfl rfl rfl (hr := hi) (k := ?_) | refine cl 140 tt rfl rfl rfl (hr := hd) (k := ?_) | refine cl 116 tt rfl rfl rfl (hr := h1) (k := ?_) | refine cl 118 tt rfl rfl rfl (hr := hc) (k := ?_) | refine cl 117 tt rfl rfl rfl (hr := hg) (k := ?_) | refine cl 118 tt rfl rfl rfl (hr := hc2) (k := ?_) | (refine gdLG ?_ ?_ <;> intro _ <;> try (exfalso; omega)))
        | (show awp _ _ _ _; first | refine goA ?_ | refine rg 5 9 ?_ | (refine cdG ?_ ?_ <;> intro _ <;> try (exfalso; omega)))
        | (show andThen _ _ _ _; refine goN ?_)
        | (show inBlock _ _ _ _; refine goB ?_)
        | (show awpR _ _ _ _ _ _ _; first | refine goR ?_ | refine clR 110 tt rfl rfl rfl (hr := hi) (k := ?_) | refine clR 140 tt rfl rfl rfl (hr := hd) (k := ?_) | refine clR 116 tt rfl rfl rfl (hr := h1) (k := ?_) | refine clR 118 tt rfl rfl rfl (hr := hc) (k := ?_) | refine clR 117 tt rfl rfl rfl (hr := hg) (k := ?_) | refine clR 118 tt rfl rfl rfl (hr := hc2) (k := ?_) | (refine gdRG ?_ ?_ <;> intro _ <;> try (exfalso; omega)))
        | (show retPost _ _ _ _ _; refine finG ?_))
      · rename_i x
        have x : d.length = 0 := Int.ofNat_eq_zero.1 x
        simp [x, e5 x]
      · rename_i x y
        have x := mt Int.ofNat_eq_zero.2 x
        have y := Int.ofNat_eq_zero.1 y
        simp [show ¬ d.length = 0 from x, show m.length = 0 from y]
      · rename_i x y z
        simp [z]
      · rename_i x y z
        have x := mt Int.ofNat_eq_zero.2 x
        have y := mt Int.ofNat_eq_zero.2 y
        simp [show ¬ d.length = 0 from x, show ¬ m.length = 0 from y, z]
theorem rational_value (r : R3) (h : RatOk r 10000000) : Ret Tryz.prog 71 [rD r] (· = rD (rq (rv r))) := by
  have hv := rational_Valid r h
  have e := rq_rv (r := r)
  have e0 := rv_invalid (r := r)
  cases hr : validR r with
  | false =>
    rw [hr] at hv
    rw [e0 hr, rq_zero]
    refine ret_of_awp tab Tryz.func71 rfl rfl (Nat.le_of_ble_eq_true rfl) (fun w0 F0 => ?_)
    repeat' (first
      | (show awpL _ _ _ _ _; first | refine goL ?_ | refine cl 112 tt rfl rfl rfl (hr := hv) (k := ?_) | (refine gdLG ?_ ?_ <;> intro _ <;> try (exfalso; omega)))
      | (show awp _ _ _ _; first | refine goA ?_ | (refine cdG ?_ ?_ <;> intro _ <;> try (exfalso; omega)))
      | (show andThen _ _ _ _; refine goN ?_)
      | (show inBlock _ _ _ _; refine goB ?_)
      | (show retPost _ _ _ _ _; first | refine finF true rfl rfl sc ?_ | refine finF false rfl rfl sc ?_ | refine finC false rfl rfl sc sc ?_ | refine finN rfl rfl sc ?_ | refine finL true rfl rfl sc rfl (LeR.cons rfl leL LeR.nil) ?_ | refine finA true rfl rfl sc ?_ | refine finA false rfl rfl sc ?_ | refine finE true rfl rfl sc ?_ | refine finE false rfl rfl sc ?_))
    exact leL
  | true =>
    rw [hr] at hv
    rw [e hr h.wm h.wd]
    refine ret_of_awp tab Tryz.func71 rfl rfl (Nat.le_of_ble_eq_true rfl) (fun w0 F0 => ?_)
    repeat' (first
      | (show awpL _ _ _ _ _; first | refine goL ?_ | refine cl 112 tt rfl rfl rfl (hr := hv) (k := ?_) | (refine gdLG ?_ ?_ <;> intro _ <;> try (exfalso; omega)))
      | (show awp _ _ _ _; first | refine goA ?_ | (refine cdG ?_ ?_ <;> intro _ <;> try (exfalso; omega)))
      | (show andThen _ _ _ _; refine goN ?_)
      | (show inBlock _ _ _ _; refine goB ?_)
      | (show retPost _ _ _ _ _; refine finG ?_))
    rfl
theorem rational_den (q : Rat) (h : okQ 10000000 q) : Ret Tryz.prog 73 [rD (rq q)] (· = u32s (limbs q.den)) := by
  have h1 := rational_one
  by_cases hq : q.den = 1
  · have e : rq q = (decide (q.num < 0), limbs q.num.natAbs, []) := by rw [rq, hq]; rfl
    rw [e, hq, limbs_one]
    refine ret_of_awp tab Tryz.func73 rfl rfl (Nat.le_of_ble_eq_true rfl) (fun w0 F0 => ?_)
    repeat' (first
      | (show awpL _ _ _ _ _; first | refine goL ?_ | refine cl 116 tt rfl rfl rfl (hr := h1) (k := ?_) | (refine gdLG ?_ ?_ <;> intro _ <;> try (exfalso; omega)))
      | (show awp _ _ _ _; first | refine goA ?_ | (refine cdG ?_ ?_ <;> intro _ <;> try (exfalso; omega)))
      | (show andThen _ _ _ _; refine goN ?_)
      | (show inBlock _ _ _ _; refine goB ?_)
      | (show retPost _ _ _ _ _; refine finG ?_))
    rfl
  · have e : rq q = (decide (q.num < 0), limbs q.num.natAbs, limbs q.den) := by rw [rq, dL, if_neg hq]
    have l0 : (limbs q.den).length ≠ 0 := fun e => q.den_nz (limbs_eq_nil.1 (List.length_eq_zero_iff.1 e))
    rw [e]
    show Ret _ _ [.agg [.bool (decide (q.num < 0)), u32s (limbs q.num.natAbs), u32s (limbs q.den)]] _
    refine ret_of_awp tab Tryz.func73 rfl rfl (Nat.le_of_ble_eq_true rfl) (fun w0 F0 => ?_)
    repeat' (first
      | (show awpL _ _ _ _ _; first | refine goL ?_ | (refine gdLG ?_ ?_ <;> intro _ <;> try (exfalso; omega)))
      | (show awp _ _ _ _; first | refine goA ?_ | (refine cdG ?_ ?_ <;> intro _ <;> try (exfalso; omega)))
      | (show andThen _ _ _ _; refine goN ?_)
      | (show inBlock _ _ _ _; refine goB ?_)
      | (show retPost _ _ _ _ _; refine finG ?_))
    rfl
theorem lowest_parts (z : Int) (d : Nat) (hd : d ≠ 0) : rq (Rat.divInt z d) = (decide (z < 0), limbs (z.natAbs / Nat.gcd z.natAbs d), dL (d / Nat.gcd z.natAbs d)) := by
  have hg : 0 < Nat.gcd z.natAbs d := Nat.gcd_pos_of_pos_right _ (by omega)
  rw [divInt_parts z d (by omega)]
  have e1 : (Int.gcd z d : Nat) = Nat.gcd z.natAbs d := by unfold Int.gcd; rw [Int.natAbs_natCast]
  rw [e1]
  generalize hgg : Nat.gcd z.natAbs d = g at *
  have hdv : (g : Int) ∣ z := by rw [← Int.natAbs_dvd_natAbs, Int.natAbs_natCast, ← hgg]; exact Nat.gcd_dvd_left _ _
  obtain ⟨k, rfl⟩ := hdv
  have hgi : (0 : Int) < g := by omega
  rw [Int.mul_ediv_cancel_left _ (by omega), Int.natAbs_mul, Int.natAbs_natCast, Nat.mul_div_cancel_left _ hg]
  have e2 : ((d : Int) / (g : Int)).natAbs = d / g := by rw [← Int.natCast_ediv, Int.natAbs_natCast]
  rw [e2]
  congr 1
  refine decide_eq_decide.2 ?_
  constructor
  · intro h; exact Int.mul_neg_of_pos_of_neg hgi h
  · intro h
    exact Classical.byContradiction fun hn => by
      have := Int.mul_nonneg (Int.le_of_lt hgi) (show 0 ≤ k by omega)
      omega
theorem rational_lowest (z : Int) (d : Nat) (hd : d ≠ 0) (lz : (limbs z.natAbs).length < 10000000) (ld : (limbs d).length < 10000000) : Ret Tryz.prog 75 [zD z, u32s (limbs d)] (· = rD (rq (Rat.divInt z d))) := by
  have h1 := rational_one
  have hgp : 0 < Nat.gcd z.natAbs d := Nat.gcd_pos_of_pos_right _ (by omega)
  have hg := natural_GcdN z.natAbs d lz ld
  have hgl := len_bound (Nat.le_of_dvd (by omega) (Nat.gcd_dvd_right z.natAbs d)) ld
  rw [lowest_parts z d hd]
  show Ret _ _ _ (· = .agg [.bool (decide (z < 0)), u32s (limbs (z.natAbs / Nat.gcd z.natAbs d)), u32s (dL (d / Nat.gcd z.natAbs d))])
  have h2 := natural_DivN z.natAbs (Nat.gcd z.natAbs d) (by omega) (by omega) (by omega)
  have h3 := natural_DivN d (Nat.gcd z.natAbs d) (by omega) (by omega) (by omega)
  have hq := len_bound (Nat.div_le_self d (Nat.gcd z.natAbs d)) ld
  have hc := natural_CompareOne (limbs (d / Nat.gcd z.natAbs d)) (wf_limbs _) (by omega)
  rw [nv_limbs] at hc
  have hz := cmpN_zero (d / Nat.gcd z.natAbs d) 1
  clear hgp
  generalize z.natAbs / Nat.gcd z.natAbs d = p at *
  generalize d / Nat.gcd z.natAbs d = q at *
  generalize Nat.gcd z.natAbs d = g at *
  unfold dL
  by_cases hq1 : q = 1
  · rw [if_pos hq1]
    rw [hz.2 hq1] at hc
    refine ret_of_awp tab Tryz.func75 rfl rfl (Nat.le_of_ble_eq_true rfl) (fun w0 F0 => ?_)
    repeat' (first
      | (show awpL _ _ _ _ _; first | refine goL ?_ | refine cl 116 tt rfl rfl rfl (hr := h1) (k := ?_) | refine cl 117 tt rfl rfl rfl (hr := hg) (k := ?_) | refine cl 113 tt rfl rfl rfl (hr := h2) (k := ?_) | refine cl 113 tt rfl rfl rfl (hr := h3) (k := ?_) | refine cl 118 tt rfl rfl rfl (hr := hc) (k := ?_) | (refine gdLG ?_ ?_ <;> intro _ <;> try (exfalso; omega)))
      | (show awp _ _ _ _; first | refine goA ?_ | (refine cdG ?_ ?_ <;> intro _ <;> try (exfalso; omega)))
      | (show andThen _ _ _ _; refine goN ?_)
      | (show inBlock _ _ _ _; refine goB ?_)
      | (show retPost _ _ _ _ _; first | refine finF true rfl rfl sc ?_ | refine finF false rfl rfl sc ?_ | refine finC false rfl rfl sc sc ?_ | refine finN rfl rfl sc ?_ | refine finL true rfl rfl sc rfl (LeR.cons rfl leL LeR.nil) ?_ | refine finA true rfl rfl sc ?_ | refine finA false rfl rfl sc ?_ | refine finE true rfl rfl sc ?_ | refine finE false rfl rfl sc ?_))
    exact leL
  · rw [if_neg hq1]
    have hcz := mt hz.1 hq1
    generalize cmpN q 1 = c at *
    refine ret_of_awp tab Tryz.func75 rfl rfl (Nat.le_of_ble_eq_true rfl) (fun w0 F0 => ?_)
    repeat' (first
      | (show awpL _ _ _ _ _; first | refine goL ?_ | refine cl 116 tt rfl rfl rfl (hr := h1) (k := ?_) | refine cl 117 tt rfl rfl rfl (hr := hg) (k := ?_) | refine cl 113 tt rfl rfl rfl (hr := h2) (k := ?_) | refine cl 113 tt rfl rfl rfl (hr := h3) (k := ?_) | refine cl 118 tt rfl rfl rfl (hr := hc) (k := ?_) | (refine gdLG ?_ ?_ <;> intro _ <;> try (exfalso; omega)))
      | (show awp _ _ _ _; first | refine goA ?_ | (refine cdG ?_ ?_ <;> intro _ <;> try (exfalso; omega)))
      | (show andThen _ _ _ _; refine goN ?_)
      | (show inBlock _ _ _ _; refine goB ?_)
      | (show retPost _ _ _ _ _; refine finG ?_))
    rfl
end Go.Proofs.YtoppaphffnojdaaGreat

/-
  Rational numbers: comparison, whole numbers, bounds. Conditions: as each says.
-/
set_option linter.unusedVariables false
set_option linter.unusedSimpArgs false
namespace Go.Vw
theorem RatOk.up {r : R3} {k l : Nat} (h : RatOk r k) (hl : k ≤ l) : RatOk r l := ⟨h.wm, h.wd, Nat.lt_of_lt_of_le h.lm hl, Nat.lt_of_lt_of_le h.ld hl⟩
def cmpQ (x y : Rat) : Int := if x < y then -1 else if y < x then 1 else 0
theorem cmpQ_eq (x y : Rat) : cmpQ x y = if x.num * y.den < y.num * x.den then -1 else if y.num * x.den < x.num * y.den then 1 else 0 := by
  unfold cmpQ
  simp only [Rat.lt_iff]
theorem okQ.dl {q : Rat} {k : Nat} (h : okQ k q) : (dL q.den).length < k := by
  unfold dL; split
  · exact Nat.lt_of_le_of_lt (Nat.zero_le _) h.1
  · exact h.2
theorem dL_nil {d : Nat} (h0 : d ≠ 0) : (dL d).length = 0 ↔ d = 1 := by
  unfold dL
  split
  · rename_i h; simp [h]
  · rename_i h
    simp only [h, iff_false]
    exact fun e => h0 (limbs_eq_nil.1 (List.length_eq_zero_iff.1 e))
theorem int_of_den {x : Rat} (h : x.den = 1) : x = (x.num : Rat) := by
  apply Rat.ext
  · rfl
  · rw [h]; rfl
theorem divInt_abs (a b : Int) : Rat.divInt (if b < 0 then -a else a) (b.natAbs : Int) = Rat.divInt a b := by
  split
  · rename_i h
    rw [← Rat.neg_divInt_neg, Int.neg_neg]
    congr 1; omega
  · congr 1; omega
theorem divInt_div (x y : Rat) : Rat.divInt (x.num * y.den) (y.num * x.den) = x / y := by
  rw [Rat.div_def]
  conv => rhs; rw [← Rat.num_divInt_den x, ← Rat.num_divInt_den y]
  rw [Rat.inv_divInt, Rat.divInt_mul_divInt, Int.mul_comm y.num]
end Go.Vw

set_option linter.unusedVariables false
set_option linter.unusedSimpArgs false
namespace Go.Proofs.YtoppaphffnojdaaGreat
open Go.Vw
attribute [local irreducible] awp awpL awpR

theorem rational_times (z : Int) (n : Nat) (hz : (limbs z.natAbs).length < 10000000) (hn : (limbs n).length < 10000000) : Ret Tryz.prog 105 [zD z, u32s (limbs n)] (· = zD (z * n)) := by
  have hm := integer_MulZ z n (by omega) (by rw [Int.natAbs_natCast]; omega)
  rw [zD_nat] at hm
  refine ret_of_awp tab Tryz.func105 rfl rfl (Nat.le_of_ble_eq_true rfl) (fun w0 F0 => ?_)
  repeat' (first
    | (show awpL _ _ _ _ _; first | refine goL ?_ | refine cl 74 tt rfl rfl rfl (hr := hm) (k := ?_) | (refine gdLG ?_ ?_ <;> intro _ <;> try (exfalso; omega)))
    | (show awp _ _ _ _; first | refine goA ?_ | (refine cdG ?_ ?_ <;> intro _ <;> try (exfalso; omega)))
    | (show andThen _ _ _ _; refine goN ?_)
    | (show inBlock _ _ _ _; refine goB ?_)
    | (show retPost _ _ _ _ _; first | refine finF true rfl rfl sc ?_ | refine finF false rfl rfl sc ?_ | refine finC false rfl rfl sc sc ?_ | refine finN rfl rfl sc ?_ | refine finL true rfl rfl sc rfl (LeR.cons rfl leL LeR.nil) ?_ | refine finA true rfl rfl sc ?_ | refine finA false rfl rfl sc ?_ | refine finE true rfl rfl sc ?_ | refine finE false rfl rfl sc ?_))
  exact leL
theorem rational_Compare (r t : R3) (hr : RatOk r 1000000) (ht : RatOk t 1000000) : Ret Tryz.prog 65 [rD r, rD t] (· = .int .i64 (cmpQ (rv r) (rv t))) := by
  have tr := rational_value r (hr.up (by decide))
  have tk := rational_value t (ht.up (by decide))
  have or := okQ_rv hr (by decide)
  have ot := okQ_rv ht (by decide)
  generalize rv r = x at *
  generalize rv t = y at *
  have dx := rational_den x (or.mono (by decide))
  have dy := rational_den y (ot.mono (by decide))
  obtain ⟨x1, x2⟩ := or
  obtain ⟨y1, y2⟩ := ot
  have m1 := rational_times x.num y.den (by omega) (by omega)
  have m2 := rational_times y.num x.den (by omega) (by omega)
  have l1 := ln_mul x.num.natAbs y.den
  have l2 := ln_mul y.num.natAbs x.den
  simp only [ln] at l1 l2
  have e1 : (x.num * (y.den : Int)).natAbs = x.num.natAbs * y.den := by rw [Int.natAbs_mul, Int.natAbs_natCast]
  have e2 : (y.num * (x.den : Int)).natAbs = y.num.natAbs * x.den := by rw [Int.natAbs_mul, Int.natAbs_natCast]
  have hc := integer_CompareZ (x.num * y.den) (y.num * x.den) (by rw [e1]; omega) (by rw [e2]; omega)
  rw [cmpQ_eq]
  refine ret_of_awp tab Tryz.func65 rfl rfl (Nat.le_of_ble_eq_true rfl) (fun w0 F0 => ?_)
  repeat' (first
    | (show awpL _ _ _ _ _; first | refine goL ?_ | refine cl 71 tt rfl rfl rfl (hr := tr) (k := ?_) | refine cl 71 tt rfl rfl rfl (hr := tk) (k := ?_) | refine cl 73 tt rfl rfl rfl (hr := dx) (k := ?_) | refine cl 73 tt rfl rfl rfl (hr := dy) (k := ?_) | refine cl 105 tt rfl rfl rfl (hr := m1) (k := ?_) | refine cl 105 tt rfl rfl rfl (hr := m2) (k := ?_) | refine cl 104 tt rfl rfl rfl (hr := hc) (k := ?_) | (refine gdLG ?_ ?_ <;> intro _ <;> try (exfalso; omega)))
    | (show awp _ _ _ _; first | refine goA ?_ | refine rg 1 3 ?_ | refine rg 2 9 ?_ | (refine cdG ?_ ?_ <;> intro _ <;> try (exfalso; omega)))
    | (show andThen _ _ _ _; refine goN ?_)
    | (show inBlock _ _ _ _; refine goB ?_)
    | (show awpR _ _ _ _ _ _ _; first | refine goR ?_ | refine clR 71 tt rfl rfl rfl (hr := tr) (k := ?_) | refine clR 71 tt rfl rfl rfl (hr := tk) (k := ?_) | refine clR 73 tt rfl rfl rfl (hr := dx) (k := ?_) | refine clR 73 tt rfl rfl rfl (hr := dy) (k := ?_) | refine clR 105 tt rfl rfl rfl (hr := m1) (k := ?_) | refine clR 105 tt rfl rfl rfl (hr := m2) (k := ?_) | refine clR 104 tt rfl rfl rfl (hr := hc) (k := ?_) | (refine gdRG ?_ ?_ <;> intro _ <;> try (exfalso; omega)))
    | (show retPost _ _ _ _ _; refine finG ?_))
  rfl
theorem rational_Sign (r : R3) (hr : RatOk r 1000000) : Ret Tryz.prog 97 [rD r] (· = .int .i64 (rv r).num.sign) := by
  have tr := rational_value r (hr.up (by decide))
  have or := okQ_rv hr (by decide)
  generalize rv r = x at *
  have hs := integer_SignZ x.num (by have := or.1; omega)
  refine ret_of_awp tab Tryz.func97 rfl rfl (Nat.le_of_ble_eq_true rfl) (fun w0 F0 => ?_)
  repeat' (first
    | (show awpL _ _ _ _ _; first | refine goL ?_ | refine cl 71 tt rfl rfl rfl (hr := tr) (k := ?_) | refine cl 132 tt rfl rfl rfl (hr := hs) (k := ?_) | (refine gdLG ?_ ?_ <;> intro _ <;> try (exfalso; omega)))
    | (show awp _ _ _ _; first | refine goA ?_ | (refine cdG ?_ ?_ <;> intro _ <;> try (exfalso; omega)))
    | (show andThen _ _ _ _; refine goN ?_)
    | (show inBlock _ _ _ _; refine goB ?_)
    | (show retPost _ _ _ _ _; refine finG ?_))
  rfl
theorem natural_copyD (d : Nat) (h : (dL d).length < 10000000) : Ret Tryz.prog 109 [u32s (dL d), u32s []] (· = u32s (dL d)) := by
  unfold dL at *
  split
  · have := natural_AddN 0 0 (by rw [limbs_zero]; simp) (by rw [limbs_zero]; simp)
    rw [Nat.add_zero, limbs_zero] at this
    exact this
  · rename_i h1
    rw [if_neg h1] at h
    have := natural_AddN d 0 (by omega) (by rw [limbs_zero]; simp)
    rw [Nat.add_zero, limbs_zero] at this
    exact this
theorem rational_Neg (r : R3) (hr : RatOk r 1000000) : Ret Tryz.prog 68 [rD r] (· = rD (rq (-rv r))) := by
  have tr := rational_value r (hr.up (by decide))
  have or := okQ_rv hr (by decide)
  generalize rv r = x at *
  have hs := integer_NegZ x.num (by have := or.1; omega)
  have hd := natural_copyD x.den (by have := or.dl; omega)
  have e : rq (-x) = (decide (-x.num < 0), limbs (-x.num).natAbs, dL x.den) := rfl
  rw [e]
  refine ret_of_awp tab Tryz.func68 rfl rfl (Nat.le_of_ble_eq_true rfl) (fun w0 F0 => ?_)
  repeat' (first
    | (show awpL _ _ _ _ _; first | refine goL ?_ | refine cl 71 tt rfl rfl rfl (hr := tr) (k := ?_) | refine cl 108 tt rfl rfl rfl (hr := hs) (k := ?_) | refine cl 109 tt rfl rfl rfl (hr := hd) (k := ?_) | (refine gdLG ?_ ?_ <;> intro _ <;> try (exfalso; omega)))
    | (show awp _ _ _ _; first | refine goA ?_ | refine rg 2 5 ?_ | (refine cdG ?_ ?_ <;> intro _ <;> try (exfalso; omega)))
    | (show andThen _ _ _ _; refine goN ?_)
    | (show inBlock _ _ _ _; refine goB ?_)
    | (show awpR _ _ _ _ _ _ _; first | refine goR ?_ | refine clR 71 tt rfl rfl rfl (hr := tr) (k := ?_) | refine clR 108 tt rfl rfl rfl (hr := hs) (k := ?_) | refine clR 109 tt rfl rfl rfl (hr := hd) (k := ?_) | (refine gdRG ?_ ?_ <;> intro _ <;> try (exfalso; omega)))
    | (show retPost _ _ _ _ _; refine finG ?_))
  rfl
theorem rational_Add (r t : R3) (hr : RatOk r 1000000) (ht : RatOk t 1000000) : Ret Tryz.prog 67 [rD r, rD t] (· = rD (rq (rv r + rv t))) := by
  have tr := rational_value r (hr.up (by decide))
  have tk := rational_value t (ht.up (by decide))
  have or := okQ_rv hr (by decide)
  have ot := okQ_rv ht (by decide)
  generalize rv r = x at *
  generalize rv t = y at *
  have dx := rational_den x (or.mono (by decide))
  have dy := rational_den y (ot.mono (by decide))
  have nx := dL_nil x.den_nz
  have ny := dL_nil y.den_nz
  obtain ⟨x1, x2⟩ := or
  obtain ⟨y1, y2⟩ := ot
  by_cases hh : x.den = 1 ∧ y.den = 1
  · have a0 := integer_AddZ x.num y.num (by omega) (by omega)
    have e : rq (x + y) = (decide (x.num + y.num < 0), limbs (x.num + y.num).natAbs, []) := by
      have hx : x = (x.num : Rat) := int_of_den hh.1
      have hy : y = (y.num : Rat) := int_of_den hh.2
      have hs : x + y = ((x.num + y.num : Int) : Rat) := by
        conv => lhs; rw [hx, hy]
        rw [Rat.intCast_add]
      rw [hs]; rfl
    have ex : rq x = (decide (x.num < 0), limbs x.num.natAbs, []) := by rw [rq, hh.1]; rfl
    have ey : rq y = (decide (y.num < 0), limbs y.num.natAbs, []) := by rw [rq, hh.2]; rfl
    rw [ex] at tr
    rw [ey] at tk
    rw [e]
    refine ret_of_awp tab Tryz.func67 rfl rfl (Nat.le_of_ble_eq_true rfl) (fun w0 F0 => ?_)
    repeat' (first
      | (show awpL _ _ _ _ _; first | refine goL ?_ | refine cl 71 tt rfl rfl rfl (hr := tr) (k := ?_) | refine cl 71 tt rfl rfl rfl (hr := tk) (k := ?_) | refine cl 107 tt rfl rfl rfl (hr := a0) (k := ?_) | (refine gdLG ?_ ?_ <;> intro _ <;> try (exfalso; omega)))
      | (show awp _ _ _ _; first | refine goA ?_ | refine rg 1 3 ?_ | refine rg 4 14 ?_ | (refine cdG ?_ ?_ <;> intro _ <;> try (exfalso; omega)))
      | (show andThen _ _ _ _; refine goN ?_)
      | (show inBlock _ _ _ _; refine goB ?_)
      | (show awpR _ _ _ _ _ _ _; first | refine goR ?_ | refine clR 71 tt rfl rfl rfl (hr := tr) (k := ?_) | refine clR 71 tt rfl rfl rfl (hr := tk) (k := ?_) | refine clR 107 tt rfl rfl rfl (hr := a0) (k := ?_) | (refine gdRG ?_ ?_ <;> intro _ <;> try (exfalso; omega)))
      | (show retPost _ _ _ _ _; first | refine finF true rfl rfl sc ?_ | refine finF false rfl rfl sc ?_ | refine finC false rfl rfl sc sc ?_ | refine finN rfl rfl sc ?_ | refine finL true rfl rfl sc rfl (LeR.cons rfl leL LeR.nil) ?_ | refine finA true rfl rfl sc ?_ | refine finA false rfl rfl sc ?_ | refine finE true rfl rfl sc ?_ | refine finE false rfl rfl sc ?_))
    exact leL
  · have m1 := rational_times x.num y.den (by omega) (by omega)
    have m2 := rational_times y.num x.den (by omega) (by omega)
    have m3 := natural_MulN x.den y.den (by omega) (by omega)
    have l1 := ln_mul x.num.natAbs y.den
    have l2 := ln_mul y.num.natAbs x.den
    have l3 := ln_mul x.den y.den
    simp only [ln] at l1 l2 l3
    have e1 : (x.num * (y.den : Int)).natAbs = x.num.natAbs * y.den := by rw [Int.natAbs_mul, Int.natAbs_natCast]
    have e2 : (y.num * (x.den : Int)).natAbs = y.num.natAbs * x.den := by rw [Int.natAbs_mul, Int.natAbs_natCast]
    have a1 := integer_AddZ (x.num * y.den) (y.num * x.den) (by rw [e1]; omega) (by rw [e2]; omega)
    have l4 := ln_mono (Int.natAbs_add_le (x.num * y.den) (y.num * x.den))
    have l5 := ln_add (x.num * (y.den : Int)).natAbs (y.num * (x.den : Int)).natAbs
    simp only [ln] at l4 l5
    rw [e1, e2] at l4 l5
    have o := rational_lowest (x.num * y.den + y.num * x.den) (x.den * y.den) (Nat.mul_ne_zero x.den_nz y.den_nz) (by omega) (by omega)
    rw [show Rat.divInt (x.num * y.den + y.num * x.den) ((x.den * y.den : Nat) : Int) = x + y by rw [Rat.add_def', ← Rat.divInt_ofNat]] at o
    have hl : (rq x).2.2.length ≠ 0 ∨ (rq y).2.2.length ≠ 0 := by show (dL x.den).length ≠ 0 ∨ (dL y.den).length ≠ 0; rw [ne_eq, nx, ne_eq, ny]; omega
    clear l1 l2 l3 l4 l5 e1 e2
    refine ret_of_awp tab Tryz.func67 rfl rfl (Nat.le_of_ble_eq_true rfl) (fun w0 F0 => ?_)
    repeat' (first
      | (show awpL _ _ _ _ _; first | refine goL ?_ | refine cl 71 tt rfl rfl rfl (hr := tr) (k := ?_) | refine cl 71 tt rfl rfl rfl (hr := tk) (k := ?_) | refine cl 73 tt rfl rfl rfl (hr := dx) (k := ?_) | refine cl 73 tt rfl rfl rfl (hr := dy) (k := ?_) | refine cl 105 tt rfl rfl rfl (hr := m1) (k := ?_) | refine cl 105 tt rfl rfl rfl (hr := m2) (k := ?_) | refine cl 76 tt rfl rfl rfl (hr := m3) (k := ?_) | refine cl 107 tt rfl rfl rfl (hr := a1) (k := ?_) | refine cl 75 tt rfl rfl rfl (hr := o) (k := ?_) | (refine gdLG ?_ ?_ <;> intro _ <;> try (exfalso; omega)))
      | (show awp _ _ _ _; first | refine goA ?_ | refine rg 1 3 ?_ | refine rg 4 14 ?_ | (refine cdG ?_ ?_ <;> intro _ <;> try (exfalso; omega)))
      | (show andThen _ _ _ _; refine goN ?_)
      | (show inBlock _ _ _ _; refine goB ?_)
      | (show awpR _ _ _ _ _ _ _; first | refine goR ?_ | refine clR 71 tt rfl rfl rfl (hr := tr) (k := ?_) | refine clR 71 tt rfl rfl rfl (hr := tk) (k := ?_) | refine clR 73 tt rfl rfl rfl (hr := dx) (k := ?_) | refine clR 73 tt rfl rfl rfl (hr := dy) (k := ?_) | refine clR 105 tt rfl rfl rfl (hr := m1) (k := ?_) | refine clR 105 tt rfl rfl rfl (hr := m2) (k := ?_) | refine clR 76 tt rfl rfl rfl (hr := m3) (k := ?_) | refine clR 107 tt rfl rfl rfl (hr := a1) (k := ?_) | refine clR 75 tt rfl rfl rfl (hr := o) (k := ?_) | (refine gdRG ?_ ?_ <;> intro _ <;> try (exfalso; omega)))
      | (show retPost _ _ _ _ _; refine finG ?_))
    all_goals rfl
theorem rational_Mul (r t : R3) (hr : RatOk r 1000000) (ht : RatOk t 1000000) : Ret Tryz.prog 36 [rD r, rD t] (· = rD (rq (rv r * rv t))) := by
  have tr := rational_value r (hr.up (by decide))
  have tk := rational_value t (ht.up (by decide))
  have or := okQ_rv hr (by decide)
  have ot := okQ_rv ht (by decide)
  generalize rv r = x at *
  generalize rv t = y at *
  have dx := rational_den x (or.mono (by decide))
  have dy := rational_den y (ot.mono (by decide))
  have nx := dL_nil x.den_nz
  have ny := dL_nil y.den_nz
  obtain ⟨x1, x2⟩ := or
  obtain ⟨y1, y2⟩ := ot
  have a0 := integer_MulZ x.num y.num (by omega) (by omega)
  by_cases hh : x.den = 1 ∧ y.den = 1
  · have e : rq (x * y) = (decide (x.num * y.num < 0), limbs (x.num * y.num).natAbs, []) := by
      have hx : x = (x.num : Rat) := int_of_den hh.1
      have hy : y = (y.num : Rat) := int_of_den hh.2
      have hs : x * y = ((x.num * y.num : Int) : Rat) := by
        conv => lhs; rw [hx, hy]
        rw [Rat.intCast_mul]
      rw [hs]; rfl
    have ex : rq x = (decide (x.num < 0), limbs x.num.natAbs, []) := by rw [rq, hh.1]; rfl
    have ey : rq y = (decide (y.num < 0), limbs y.num.natAbs, []) := by rw [rq, hh.2]; rfl
    rw [ex] at tr
    rw [ey] at tk
    rw [e]
    refine ret_of_awp tab Tryz.func36 rfl rfl (Nat.le_of_ble_eq_true rfl) (fun w0 F0 => ?_)
    repeat' (first
      | (show awpL _ _ _ _ _; first | refine goL ?_ | refine cl 71 tt rfl rfl rfl (hr := tr) (k := ?_) | refine cl 71 tt rfl rfl rfl (hr := tk) (k := ?_) | refine cl 74 tt rfl rfl rfl (hr := a0) (k := ?_) | (refine gdLG ?_ ?_ <;> intro _ <;> try (exfalso; omega)))
      | (show awp _ _ _ _; first | refine goA ?_ | refine rg 1 3 ?_ | refine rg 4 8 ?_ | (refine cdG ?_ ?_ <;> intro _ <;> try (exfalso; omega)))
      | (show andThen _ _ _ _; refine goN ?_)
      | (show inBlock _ _ _ _; refine goB ?_)
      | (show awpR _ _ _ _ _ _ _; first | refine goR ?_ | refine clR 71 tt rfl rfl rfl (hr := tr) (k := ?_) | refine clR 71 tt rfl rfl rfl (hr := tk) (k := ?_) | refine clR 74 tt rfl rfl rfl (hr := a0) (k := ?_) | (refine gdRG ?_ ?_ <;> intro _ <;> try (exfalso; omega)))
      | (show retPost _ _ _ _ _; first | refine finF true rfl rfl sc ?_ | refine finF false rfl rfl sc ?_ | refine finC false rfl rfl sc sc ?_ | refine finN rfl rfl sc ?_ | refine finL true rfl rfl sc rfl (LeR.cons rfl leL LeR.nil) ?_ | refine finA true rfl rfl sc ?_ | refine finA false rfl rfl sc ?_ | refine finE true rfl rfl sc ?_ | refine finE false rfl rfl sc ?_))
    exact leL
  · have m3 := natural_MulN x.den y.den (by omega) (by omega)
    have l1 := ln_mul x.num.natAbs y.num.natAbs
    have l3 := ln_mul x.den y.den
    simp only [ln] at l1 l3
    have e1 : (x.num * y.num).natAbs = x.num.natAbs * y.num.natAbs := Int.natAbs_mul _ _
    have o := rational_lowest (x.num * y.num) (x.den * y.den) (Nat.mul_ne_zero x.den_nz y.den_nz) (by rw [e1]; omega) (by omega)
    rw [show Rat.divInt (x.num * y.num) ((x.den * y.den : Nat) : Int) = x * y by rw [Rat.mul_def', ← Rat.divInt_ofNat]] at o
    have hl : (rq x).2.2.length ≠ 0 ∨ (rq y).2.2.length ≠ 0 := by show (dL x.den).length ≠ 0 ∨ (dL y.den).length ≠ 0; rw [ne_eq, nx, ne_eq, ny]; omega
    clear l1 l3 e1
    refine ret_of_awp tab Tryz.func36 rfl rfl (Nat.le_of_ble_eq_true rfl) (fun w0 F0 => ?_)
    repeat' (first
      | (show awpL _ _ _ _ _; first | refine goL ?_ | refine cl 71 tt rfl rfl rfl (hr := tr) (k := ?_) | refine cl 71 tt rfl rfl rfl (hr := tk) (k := ?_) | refine cl 73 tt rfl rfl rfl (hr := dx) (k := ?_) | refine cl 73 tt rfl rfl rfl (hr := dy) (k := ?_) | refine cl 76 tt rfl rfl rfl (hr := m3) (k := ?_) | refine cl 74 tt rfl rfl rfl (hr := a0) (k := ?_) | refine cl 75 tt rfl rfl rfl (hr := o) (k := ?_) | (refine gdLG ?_ ?_ <;> intro _ <;> try (exfalso; omega)))
      | (show awp _ _ _ _; first | refine goA ?_ | refine rg 1 3 ?_ | refine rg 4 8 ?_ | (refine cdG ?_ ?_ <;> intro _ <;> try (exfalso; omega)))
      | (show andThen _ _ _ _; refine goN ?_)
      | (show inBlock _ _ _ _; refine goB ?_)
      | (show awpR _ _ _ _ _ _ _; first | refine goR ?_ | refine clR 71 tt rfl rfl rfl (hr := tr) (k := ?_) | refine clR 71 tt rfl rfl rfl (hr := tk) (k := ?_) | refine clR 73 tt rfl rfl rfl (hr := dx) (k := ?_) | refine clR 73 tt rfl rfl rfl (hr := dy) (k := ?_) | refine clR 76 tt rfl rfl rfl (hr := m3) (k := ?_) | refine clR 74 tt rfl rfl rfl (hr := a0) (k := ?_) | refine clR 75 tt rfl rfl rfl (hr := o) (k := ?_) | (refine gdRG ?_ ?_ <;> intro _ <;> try (exfalso; omega)))
      | (show retPost _ _ _ _ _; refine finG ?_))
    all_goals rfl
theorem rational_Sub (r t : R3) (hr : RatOk r 1000000) (ht : RatOk t 1000000) : Ret Tryz.prog 33 [rD r, rD t] (· = rD (rq (rv r - rv t))) := by
  have hn := rational_Neg t ht
  have or := okQ_rv ht (by decide)
  have on : okQ 1000000 (-rv t) := ⟨by rw [Rat.neg_num, Int.natAbs_neg]; exact or.1, by rw [Rat.neg_den]; exact or.2⟩
  have ha := rational_Add r (rq (-rv t)) hr (ok_rq on)
  rw [rv_rq, ← Rat.sub_eq_add_neg] at ha
  refine ret_of_awp tab Tryz.func33 rfl rfl (Nat.le_of_ble_eq_true rfl) (fun w0 F0 => ?_)
  repeat' (first
    | (show awpL _ _ _ _ _; first | refine goL ?_ | refine cl 68 tt rfl rfl rfl (hr := hn) (k := ?_) | refine cl 67 tt rfl rfl rfl (hr := ha) (k := ?_) | (refine gdLG ?_ ?_ <;> intro _ <;> try (exfalso; omega)))
    | (show awp _ _ _ _; first | refine goA ?_ | refine rg 1 3 ?_ | (refine cdG ?_ ?_ <;> intro _ <;> try (exfalso; omega)))
    | (show andThen _ _ _ _; refine goN ?_)
    | (show inBlock _ _ _ _; refine goB ?_)
    | (show awpR _ _ _ _ _ _ _; first | refine goR ?_ | refine clR 68 tt rfl rfl rfl (hr := hn) (k := ?_) | refine clR 67 tt rfl rfl rfl (hr := ha) (k := ?_) | (refine gdRG ?_ ?_ <;> intro _ <;> try (exfalso; omega)))
    | (show retPost _ _ _ _ _; refine finG ?_))
  rfl
theorem rational_Make (a b : Int) (ha : (limbs a.natAbs).length < 10000000) (hb : (limbs b.natAbs).length < 10000000) : Ret Tryz.prog 106 [zD a, zD b] (· = if b = 0 then .tup [rD r0, .int .i64 5] else .tup [rD (rq (Rat.divInt a b)), .int .i64 0]) := by
  have hs := integer_SignZ b (by omega)
  by_cases h0 : b = 0
  · rw [if_pos h0]
    rw [h0] at hs ⊢
    have : (0 : Int).sign = 0 := rfl
    rw [this] at hs
    refine ret_of_awp tab Tryz.func106 rfl rfl (Nat.le_of_ble_eq_true rfl) (fun w0 F0 => ?_)
    repeat' (first
      | (show awpL _ _ _ _ _; first | refine goL ?_ | refine cl 132 tt rfl rfl rfl (hr := hs) (k := ?_) | (refine gdLG ?_ ?_ <;> intro _ <;> try (exfalso; omega)))
      | (show awp _ _ _ _; first | refine goA ?_ | refine rg 5 5 ?_ | (refine cdG ?_ ?_ <;> intro _ <;> try (exfalso; omega)))
      | (show andThen _ _ _ _; refine goN ?_)
      | (show inBlock _ _ _ _; refine goB ?_)
      | (show awpR _ _ _ _ _ _ _; first | refine goR ?_ | refine clR 132 tt rfl rfl rfl (hr := hs) (k := ?_) | (refine gdRG ?_ ?_ <;> intro _ <;> try (exfalso; omega)))
      | (show retPost _ _ _ _ _; refine finTG ?_))
    exact leT
  · rw [if_neg h0]
    have hab := divInt_abs a b
    by_cases hn : b < 0
    · rw [if_pos hn] at hab
      rw [Int.sign_eq_neg_one_of_neg hn] at hs
      have hne := integer_NegZ a (by omega)
      have had := integer_AddZ (-a) 0 (by rw [Int.natAbs_neg]; omega) (by show (limbs 0).length < _; rw [limbs_zero]; simp)
      rw [zD_zero, Int.add_zero] at had
      have hlo := rational_lowest (-a) b.natAbs (by omega) (by rw [Int.natAbs_neg]; exact ha) hb
      rw [hab] at hlo
      refine ret_of_awp tab Tryz.func106 rfl rfl (Nat.le_of_ble_eq_true rfl) (fun w0 F0 => ?_)
      repeat' (first
        | (show awpL _ _ _ _ _; first | refine goL ?_ | refine cl 132 tt rfl rfl rfl (hr := hs) (k := ?_) | refine cl 108 tt rfl rfl rfl (hr := hne) (k := ?_) | refine cl 107 tt rfl rfl rfl (hr := had) (k := ?_) | refine cl 75 tt rfl rfl rfl (hr := hlo) (k := ?_) | (refine gdLG ?_ ?_ <;> intro _ <;> try (exfalso; omega)))
        | (show awp _ _ _ _; first | refine goA ?_ | refine rg 5 5 ?_ | (refine cdG ?_ ?_ <;> intro _ <;> try (exfalso; omega)))
        | (show andThen _ _ _ _; refine goN ?_)
        | (show inBlock _ _ _ _; refine goB ?_)
        | (show awpR _ _ _ _ _ _ _; first | refine goR ?_ | refine clR 132 tt rfl rfl rfl (hr := hs) (k := ?_) | refine clR 108 tt rfl rfl rfl (hr := hne) (k := ?_) | refine clR 107 tt rfl rfl rfl (hr := had) (k := ?_) | refine clR 75 tt rfl rfl rfl (hr := hlo) (k := ?_) | (refine gdRG ?_ ?_ <;> intro _ <;> try (exfalso; omega)))
        | (show retPost _ _ _ _ _; refine finTG ?_))
      exact leT
    · rw [if_neg hn] at hab
      rw [Int.sign_eq_one_of_pos (by omega)] at hs
      have had := integer_AddZ a 0 (by omega) (by show (limbs 0).length < _; rw [limbs_zero]; simp)
      rw [zD_zero, Int.add_zero] at had
      have hlo := rational_lowest a b.natAbs (by omega) ha hb
      rw [hab] at hlo
      refine ret_of_awp tab Tryz.func106 rfl rfl (Nat.le_of_ble_eq_true rfl) (fun w0 F0 => ?_)
      repeat' (first
        | (show awpL _ _ _ _ _; first | refine goL ?_ | refine cl 132 tt rfl rfl rfl (hr := hs) (k := ?_) | refine cl 107 tt rfl rfl rfl (hr := had) (k := ?_) | refine cl 75 tt rfl rfl rfl (hr := hlo) (k := ?_) | (refine gdLG ?_ ?_ <;> intro _ <;> try (exfalso; omega)))
        | (show awp _ _ _ _; first | refine goA ?_ | refine rg 5 5 ?_ | (refine cdG ?_ ?_ <;> intro _ <;> try (exfalso; omega)))
        | (show andThen _ _ _ _; refine goN ?_)
        | (show inBlock _ _ _ _; refine goB ?_)
        | (show awpR _ _ _ _ _ _ _; first | refine goR ?_ | refine clR 132 tt rfl rfl rfl (hr := hs) (k := ?_) | refine clR 107 tt rfl rfl rfl (hr := had) (k := ?_) | refine clR 75 tt rfl rfl rfl (hr := hlo) (k := ?_) | (refine gdRG ?_ ?_ <;> intro _ <;> try (exfalso; omega)))
        | (show retPost _ _ _ _ _; refine finTG ?_))
      exact leT
theorem rational_Div (r t : R3) (hr : RatOk r 1000000) (ht : RatOk t 1000000) : Ret Tryz.prog 66 [rD r, rD t] (· = if rv t = 0 then .tup [rD r0, .int .i64 5] else .tup [rD (rq (rv r / rv t)), .int .i64 0]) := by
  have tr := rational_value r (hr.up (by decide))
  have tk := rational_value t (ht.up (by decide))
  have or := okQ_rv hr (by decide)
  have ot := okQ_rv ht (by decide)
  generalize rv r = x at *
  generalize rv t = y at *
  have dx := rational_den x (or.mono (by decide))
  have dy := rational_den y (ot.mono (by decide))
  obtain ⟨x1, x2⟩ := or
  obtain ⟨y1, y2⟩ := ot
  have m1 := rational_times x.num y.den (by omega) (by omega)
  have m2 := rational_times y.num x.den (by omega) (by omega)
  have l1 := ln_mul x.num.natAbs y.den
  have l2 := ln_mul y.num.natAbs x.den
  simp only [ln] at l1 l2
  have e1 : (x.num * (y.den : Int)).natAbs = x.num.natAbs * y.den := by rw [Int.natAbs_mul, Int.natAbs_natCast]
  have e2 : (y.num * (x.den : Int)).natAbs = y.num.natAbs * x.den := by rw [Int.natAbs_mul, Int.natAbs_natCast]
  have hm := rational_Make (x.num * y.den) (y.num * x.den) (by rw [e1]; omega) (by rw [e2]; omega)
  have hd : (x.den : Int) ≠ 0 := by have := x.den_nz; omega
  have h0 : y.num * x.den = 0 ↔ y = 0 := by
    rw [Int.mul_eq_zero, Rat.num_eq_zero]; exact ⟨fun h => h.elim id fun h => absurd h hd, .inl⟩
  by_cases hy : y = 0
  · rw [if_pos hy]
    rw [if_pos (h0.2 hy)] at hm
    refine ret_of_awp tab Tryz.func66 rfl rfl (Nat.le_of_ble_eq_true rfl) (fun w0 F0 => ?_)
    repeat' (first
      | (show awpL _ _ _ _ _; first | refine goL ?_ | refine cl 71 tt rfl rfl rfl (hr := tr) (k := ?_) | refine cl 71 tt rfl rfl rfl (hr := tk) (k := ?_) | refine cl 73 tt rfl rfl rfl (hr := dx) (k := ?_) | refine cl 73 tt rfl rfl rfl (hr := dy) (k := ?_) | refine cl 105 tt rfl rfl rfl (hr := m1) (k := ?_) | refine cl 105 tt rfl rfl rfl (hr := m2) (k := ?_) | refine cl 106 tt rfl rfl rfl (hr := hm) (k := ?_) | (refine gdLG ?_ ?_ <;> intro _ <;> try (exfalso; omega)))
      | (show awp _ _ _ _; first | refine goA ?_ | refine rg 1 3 ?_ | refine rg 2 13 ?_ | (refine cdG ?_ ?_ <;> intro _ <;> try (exfalso; omega)))
      | (show andThen _ _ _ _; refine goN ?_)
      | (show inBlock _ _ _ _; refine goB ?_)
      | (show awpR _ _ _ _ _ _ _; first | refine goR ?_ | refine clR 71 tt rfl rfl rfl (hr := tr) (k := ?_) | refine clR 71 tt rfl rfl rfl (hr := tk) (k := ?_) | refine clR 73 tt rfl rfl rfl (hr := dx) (k := ?_) | refine clR 73 tt rfl rfl rfl (hr := dy) (k := ?_) | refine clR 105 tt rfl rfl rfl (hr := m1) (k := ?_) | refine clR 105 tt rfl rfl rfl (hr := m2) (k := ?_) | refine clR 106 tt rfl rfl rfl (hr := hm) (k := ?_) | (refine gdRG ?_ ?_ <;> intro _ <;> try (exfalso; omega)))
      | (show retPost _ _ _ _ _; refine finTG ?_))
    exact leT
  · rw [if_neg hy]
    rw [if_neg (mt h0.1 hy)] at hm
    rw [divInt_div] at hm
    refine ret_of_awp tab Tryz.func66 rfl rfl (Nat.le_of_ble_eq_true rfl) (fun w0 F0 => ?_)
    repeat' (first
      | (show awpL _ _ _ _ _; first | refine goL ?_ | refine cl 71 tt rfl rfl rfl (hr := tr) (k := ?_) | refine cl 71 tt rfl rfl rfl (hr := tk) (k := ?_) | refine cl 73 tt rfl rfl rfl (hr := dx) (k := ?_) | refine cl 73 tt rfl rfl rfl (hr := dy) (k := ?_) | refine cl 105 tt rfl rfl rfl (hr := m1) (k := ?_) | refine cl 105 tt rfl rfl rfl (hr := m2) (k := ?_) | refine cl 106 tt rfl rfl rfl (hr := hm) (k := ?_) | (refine gdLG ?_ ?_ <;> intro _ <;> try (exfalso; omega)))
      | (show awp _ _ _ _; first | refine goA ?_ | refine rg 1 3 ?_ | refine rg 2 13 ?_ | (refine cdG ?_ ?_ <;> intro _ <;> try (exfalso; omega)))
      | (show andThen _ _ _ _; refine goN ?_)
      | (show inBlock _ _ _ _; refine goB ?_)
      | (show awpR _ _ _ _ _ _ _; first | refine goR ?_ | refine clR 71 tt rfl rfl rfl (hr := tr) (k := ?_) | refine clR 71 tt rfl rfl rfl (hr := tk) (k := ?_) | refine clR 73 tt rfl rfl rfl (hr := dx) (k := ?_) | refine clR 73 tt rfl rfl rfl (hr := dy) (k := ?_) | refine clR 105 tt rfl rfl rfl (hr := m1) (k := ?_) | refine clR 105 tt rfl rfl rfl (hr := m2) (k := ?_) | refine clR 106 tt rfl rfl rfl (hr := hm) (k := ?_) | (refine gdRG ?_ ?_ <;> intro _ <;> try (exfalso; omega)))
      | (show retPost _ _ _ _ _; refine finTG ?_))
    exact leT
end Go.Proofs.YtoppaphffnojdaaGreat

/-
  Rational numbers: sizes of results, order, whole parts. Conditions: as each says.
-/
set_option linter.unusedVariables false
set_option linter.unusedSimpArgs false
namespace Go.Vw
theorem divInt_le (a b : Int) (hb : b ≠ 0) : (Rat.divInt a b).num.natAbs ≤ a.natAbs ∧ (Rat.divInt a b).den ≤ b.natAbs := by
  rw [Rat.num_divInt, Rat.den_divInt, if_neg hb]
  refine ⟨?_, Nat.div_le_self _ _⟩
  have hg : 0 < Int.gcd b a := Int.gcd_pos_of_ne_zero_left _ hb
  have hd : ((Int.gcd b a : Nat) : Int) ∣ b.sign * a := Int.dvd_trans (Int.gcd_dvd_right b a) (Int.dvd_mul_left _ _)
  rw [Int.natAbs_ediv_of_dvd hd, Int.natAbs_mul]
  have h1 : b.sign.natAbs = 1 := by rw [Int.natAbs_sign, if_neg hb]
  rw [h1, Nat.one_mul]
  exact Nat.div_le_self _ _
theorem okQ_divInt {a b : Int} {k : Nat} (hb : b ≠ 0) (ha : (limbs a.natAbs).length < k) (hb2 : (limbs b.natAbs).length < k) : okQ k (Rat.divInt a b) :=
  ⟨Nat.lt_of_le_of_lt (limbs_len_mono (divInt_le a b hb).1) ha, Nat.lt_of_le_of_lt (limbs_len_mono (divInt_le a b hb).2) hb2⟩
theorem den_ne (x : Rat) : (x.den : Int) ≠ 0 := by have := x.den_nz; omega
theorem add_divInt (x y : Rat) : x + y = Rat.divInt (x.num * y.den + y.num * x.den) ((x.den * y.den : Nat) : Int) := by rw [Rat.add_def', ← Rat.divInt_ofNat]
theorem mul_divInt (x y : Rat) : x * y = Rat.divInt (x.num * y.num) ((x.den * y.den : Nat) : Int) := by rw [Rat.mul_def', ← Rat.divInt_ofNat]
theorem okQ.add {x y : Rat} {k l : Nat} (hx : okQ k x) (hy : okQ l y) : okQ (k + l) (x + y) := by
  rw [add_divInt]
  have l1 := ln_mul x.num.natAbs y.den
  have l2 := ln_mul y.num.natAbs x.den
  have l3 := ln_mul x.den y.den
  have e1 : (x.num * (y.den : Int)).natAbs = x.num.natAbs * y.den := by rw [Int.natAbs_mul, Int.natAbs_natCast]
  have e2 : (y.num * (x.den : Int)).natAbs = y.num.natAbs * x.den := by rw [Int.natAbs_mul, Int.natAbs_natCast]
  have l4 := ln_mono (Int.natAbs_add_le (x.num * y.den) (y.num * x.den))
  obtain ⟨x1, x2⟩ := hx
  obtain ⟨y1, y2⟩ := hy
  simp only [ln] at l1 l2 l3 l4
  have l5 := ln_add1 (m := (x.num * (y.den : Int)).natAbs) (n := (y.num * (x.den : Int)).natAbs) (k := k + l - 2) (by simp only [ln]; rw [e1]; omega) (by simp only [ln]; rw [e2]; omega)
  simp only [ln] at l5
  refine okQ_divInt (by have := Nat.mul_ne_zero x.den_nz y.den_nz; omega) (by omega) (by rw [Int.natAbs_natCast]; omega)
theorem okQ.mul {x y : Rat} {k l : Nat} (hx : okQ k x) (hy : okQ l y) : okQ (k + l) (x * y) := by
  rw [mul_divInt]
  have l1 := ln_mul x.num.natAbs y.num.natAbs
  have l3 := ln_mul x.den y.den
  have e1 : (x.num * y.num).natAbs = x.num.natAbs * y.num.natAbs := Int.natAbs_mul _ _
  obtain ⟨x1, x2⟩ := hx
  obtain ⟨y1, y2⟩ := hy
  simp only [ln] at l1 l3
  refine okQ_divInt (by have := Nat.mul_ne_zero x.den_nz y.den_nz; omega) (by rw [e1]; omega) (by rw [Int.natAbs_natCast]; omega)
theorem okQ.neg {x : Rat} {k : Nat} (hx : okQ k x) : okQ k (-x) := ⟨by rw [Rat.neg_num, Int.natAbs_neg]; exact hx.1, by rw [Rat.neg_den]; exact hx.2⟩
theorem okQ.sub {x y : Rat} {k l : Nat} (hx : okQ k x) (hy : okQ l y) : okQ (k + l) (x - y) := by rw [Rat.sub_eq_add_neg]; exact hx.add hy.neg
theorem okQ.div {x y : Rat} {k l : Nat} (hx : okQ k x) (hy : okQ l y) (h0 : y ≠ 0) : okQ (k + l) (x / y) := by
  rw [← divInt_div]
  have l1 := ln_mul x.num.natAbs y.den
  have l2 := ln_mul y.num.natAbs x.den
  have e1 : (x.num * (y.den : Int)).natAbs = x.num.natAbs * y.den := by rw [Int.natAbs_mul, Int.natAbs_natCast]
  have e2 : (y.num * (x.den : Int)).natAbs = y.num.natAbs * x.den := by rw [Int.natAbs_mul, Int.natAbs_natCast]
  obtain ⟨x1, x2⟩ := hx
  obtain ⟨y1, y2⟩ := hy
  simp only [ln] at l1 l2
  refine okQ_divInt (Int.mul_ne_zero (mt Rat.num_eq_zero.1 h0) (den_ne x)) (by rw [e1]; omega) (by rw [e2]; omega)
theorem num_lt0 {q : Rat} : q.num < 0 ↔ q < 0 := by
  rw [← Rat.not_le, ← Rat.num_nonneg]; omega
theorem num_gt0 {q : Rat} : 0 < q.num ↔ 0 < q := by
  have h1 := Rat.num_nonneg (q := q)
  have h2 := Rat.num_eq_zero (q := q)
  constructor
  · intro h
    have := h1.1 (by omega)
    have : q ≠ 0 := fun e => by have := h2.2 e; omega
    grind
  · intro h
    have := h1.2 (by grind)
    have : q.num ≠ 0 := fun e => by have := h2.1 e; grind
    omega
theorem sign_sub (x y : Rat) : (x - y).num.sign = cmpQ x y := by
  unfold cmpQ
  by_cases h : x < y
  · rw [if_pos h]
    refine Int.sign_eq_neg_one_of_neg ?_
    have : x - y < 0 := by grind
    exact num_lt0.2 this
  · rw [if_neg h]
    by_cases h2 : y < x
    · rw [if_pos h2]
      refine Int.sign_eq_one_of_pos ?_
      have : 0 < x - y := by grind
      exact num_gt0.2 this
    · rw [if_neg h2]
      have : x - y = 0 := by grind
      rw [this]; rfl
theorem cmpQ_neg (x y : Rat) : cmpQ x y < 0 ↔ x < y := by
  unfold cmpQ
  constructor
  · intro h; split at h
    · assumption
    · split at h <;> omega
  · intro h; rw [if_pos h]; decide
theorem cmpQ_pos (x y : Rat) : 0 < cmpQ x y ↔ y < x := by
  unfold cmpQ
  constructor
  · intro h; split at h
    · omega
    · split at h
      · assumption
      · omega
  · intro h; rw [if_neg (by grind), if_pos h]; decide
theorem cmpQ_zero (x y : Rat) : cmpQ x y = 0 ↔ x = y := by
  unfold cmpQ
  constructor
  · intro h; split at h
    · omega
    · split at h
      · omega
      · grind
  · intro h; subst h; rw [if_neg (by grind), if_neg (by grind)]
theorem cmpQ_range (x y : Rat) : -1 ≤ cmpQ x y ∧ cmpQ x y ≤ 1 := by unfold cmpQ; split <;> (try split) <;> omega
end Go.Vw

set_option linter.unusedVariables false
set_option linter.unusedSimpArgs false
namespace Go.Proofs.YtoppaphffnojdaaGreat
open Go.Vw
attribute [local irreducible] awp awpL awpR

theorem rational_Floor (r : R3) (hr : RatOk r 1000000) : Ret Tryz.prog 35 [rD r] (· = zD (rv r).floor) := by
  have tr := rational_value r (hr.up (by decide))
  have or := okQ_rv hr (by decide)
  generalize rv r = x at *
  have dx := rational_den x (or.mono (by decide))
  obtain ⟨x1, x2⟩ := or
  have hd := integer_DivZ x.num x.den (by omega) (by rw [Int.natAbs_natCast]; omega) (den_ne x)
  rw [← Rat.floor_def, zD_nat] at hd
  refine ret_of_awp tab Tryz.func35 rfl rfl (Nat.le_of_ble_eq_true rfl) (fun w0 F0 => ?_)
  repeat' (first
    | (show awpL _ _ _ _ _; first | refine goL ?_ | refine cl 71 tt rfl rfl rfl (hr := tr) (k := ?_) | refine cl 73 tt rfl rfl rfl (hr := dx) (k := ?_) | refine cl 72 tt rfl rfl rfl (hr := hd) (k := ?_) | (refine gdLG ?_ ?_ <;> intro _ <;> try (exfalso; omega)))
    | (show awp _ _ _ _; first | refine goA ?_ | refine rgK 2 14 [3, 4] ?_ | (refine cdG ?_ ?_ <;> intro _ <;> try (exfalso; omega)))
    | (show andThen _ _ _ _; refine goN ?_)
    | (show inBlock _ _ _ _; refine goB ?_)
    | (show awpR _ _ _ _ _ _ _; first | refine goR ?_ | refine clR 71 tt rfl rfl rfl (hr := tr) (k := ?_) | refine clR 73 tt rfl rfl rfl (hr := dx) (k := ?_) | refine clR 72 tt rfl rfl rfl (hr := hd) (k := ?_) | (refine gdRG ?_ ?_ <;> intro _ <;> try (exfalso; omega)))
    | (show retPost _ _ _ _ _; refine finG ?_))
  rfl
theorem ref03_Floor (r : R3) (hr : RatOk r 1000000) : Ret Tryz.prog 39 [rD r] (· = zD (rv r).floor) := by
  have tr := ref03_Take r (hr.up (by decide))
  have or := okQ_rv hr (by decide)
  generalize rv r = x at *
  have dx := ref03_Den x (or.mono (by decide))
  obtain ⟨x1, x2⟩ := or
  have hd := ref02_DivZ x.num x.den (by omega) (by rw [Int.natAbs_natCast]; omega) (den_ne x)
  rw [← Rat.floor_def] at hd
  refine ret_of_awp tab Tryz.func39 rfl rfl (Nat.le_of_ble_eq_true rfl) (fun w0 F0 => ?_)
  repeat' (first
    | (show awpL _ _ _ _ _; first | refine goL ?_ | refine cl 80 tt rfl rfl rfl (hr := tr) (k := ?_) | refine cl 82 tt rfl rfl rfl (hr := dx) (k := ?_) | refine cl 81 tt rfl rfl rfl (hr := hd) (k := ?_) | (refine gdLG ?_ ?_ <;> intro _ <;> try (exfalso; omega)))
    | (show awp _ _ _ _; first | refine goA ?_ | refine rgK 2 13 [3, 4] ?_ | (refine cdG ?_ ?_ <;> intro _ <;> try (exfalso; omega)))
    | (show andThen _ _ _ _; refine goN ?_)
    | (show inBlock _ _ _ _; refine goB ?_)
    | (show awpR _ _ _ _ _ _ _; first | refine goR ?_ | refine clR 80 tt rfl rfl rfl (hr := tr) (k := ?_) | refine clR 82 tt rfl rfl rfl (hr := dx) (k := ?_) | refine clR 81 tt rfl rfl rfl (hr := hd) (k := ?_) | (refine gdRG ?_ ?_ <;> intro _ <;> try (exfalso; omega)))
    | (show retPost _ _ _ _ _; refine finG ?_))
  rfl
theorem ref03_Sub (r t : R3) (hr : RatOk r 1000000) (ht : RatOk t 1000000) : Ret Tryz.prog 42 [rD r, rD t] (· = rD (rq (rv r - rv t))) := by
  have hn := ref03_Neg t ht
  have or := okQ_rv ht (by decide)
  have ha := ref03_Add r (rq (-rv t)) hr (ok_rq or.neg)
  rw [rv_rq, ← Rat.sub_eq_add_neg] at ha
  refine ret_of_awp tab Tryz.func42 rfl rfl (Nat.le_of_ble_eq_true rfl) (fun w0 F0 => ?_)
  repeat' (first
    | (show awpL _ _ _ _ _; first | refine goL ?_ | refine cl 85 tt rfl rfl rfl (hr := hn) (k := ?_) | refine cl 56 tt rfl rfl rfl (hr := ha) (k := ?_) | (refine gdLG ?_ ?_ <;> intro _ <;> try (exfalso; omega)))
    | (show awp _ _ _ _; first | refine goA ?_ | refine rg 1 3 ?_ | (refine cdG ?_ ?_ <;> intro _ <;> try (exfalso; omega)))
    | (show andThen _ _ _ _; refine goN ?_)
    | (show inBlock _ _ _ _; refine goB ?_)
    | (show awpR _ _ _ _ _ _ _; first | refine goR ?_ | refine clR 85 tt rfl rfl rfl (hr := hn) (k := ?_) | refine clR 56 tt rfl rfl rfl (hr := ha) (k := ?_) | (refine gdRG ?_ ?_ <;> intro _ <;> try (exfalso; omega)))
    | (show retPost _ _ _ _ _; refine finG ?_))
  rfl
theorem ref03_Compare (r t : R3) (hr : RatOk r 100000) (ht : RatOk t 100000) : Ret Tryz.prog 20 [rD r, rD t] (· = .int .i64 (cmpQ (rv r) (rv t))) := by
  have hs := ref03_Sub r t (hr.up (by decide)) (ht.up (by decide))
  have or := okQ_rv hr (by decide)
  have ot := okQ_rv ht (by decide)
  have hg := ref03_SignQ (rv r - rv t) ((or.sub ot).mono (by decide))
  rw [sign_sub] at hg
  refine ret_of_awp tab Tryz.func20 rfl rfl (Nat.le_of_ble_eq_true rfl) (fun w0 F0 => ?_)
  repeat' (first
    | (show awpL _ _ _ _ _; first | refine goL ?_ | refine cl 42 tt rfl rfl rfl (hr := hs) (k := ?_) | refine cl 50 tt rfl rfl rfl (hr := hg) (k := ?_) | (refine gdLG ?_ ?_ <;> intro _ <;> try (exfalso; omega)))
    | (show awp _ _ _ _; first | refine goA ?_ | (refine cdG ?_ ?_ <;> intro _ <;> try (exfalso; omega)))
    | (show andThen _ _ _ _; refine goN ?_)
    | (show inBlock _ _ _ _; refine goB ?_)
    | (show retPost _ _ _ _ _; refine finG ?_))
  rfl
theorem ref03_Less (r t : R3) (hr : RatOk r 100000) (ht : RatOk t 100000) : Ret Tryz.prog 135 [rD r, rD t] (· = .bool (decide (rv r < rv t))) := by
  have hs := ref03_Compare r t hr ht
  have hc := cmpQ_neg (rv r) (rv t)
  obtain ⟨c, hcc⟩ : ∃ c, cmpQ (rv r) (rv t) = c := ⟨_, rfl⟩
  rw [hcc] at hs hc
  rw [show decide (rv r < rv t) = decide (c < 0) from decide_eq_decide.2 hc.symm]
  refine ret_of_awp tab Tryz.func135 rfl rfl (Nat.le_of_ble_eq_true rfl) (fun w0 F0 => ?_)
  repeat' (first
    | (show awpL _ _ _ _ _; first | refine goL ?_ | refine cl 20 tt rfl rfl rfl (hr := hs) (k := ?_) | (refine gdLG ?_ ?_ <;> intro _ <;> try (exfalso; omega)))
    | (show awp _ _ _ _; first | refine goA ?_ | (refine cdG ?_ ?_ <;> intro _ <;> try (exfalso; omega)))
    | (show andThen _ _ _ _; refine goN ?_)
    | (show inBlock _ _ _ _; refine goB ?_)
    | (show retPost _ _ _ _ _; refine finG ?_))
  rfl
theorem ref03_Fraction (a b : Int) (ha : -9223372036854775808 ≤ a) (ha2 : a < 9223372036854775808) (hb : -9223372036854775808 ≤ b) (hb2 : b < 9223372036854775808) (h0 : b ≠ 0) : Ret Tryz.prog 27 [.int .i64 a, .int .i64 b] (· = rD (rq (Rat.divInt a b))) := by
  have h1 := ref02_FromInt a ha ha2
  have h2 := ref02_FromInt b hb hb2
  have l1 := u64_len (v := a.natAbs) (by omega)
  have l2 := u64_len (v := b.natAbs) (by omega)
  have o := ref03_over a b h0 (by omega) (by omega)
  refine ret_of_awp tab Tryz.func27 rfl rfl (Nat.le_of_ble_eq_true rfl) (fun w0 F0 => ?_)
  repeat' (first
    | (show awpL _ _ _ _ _; first | refine goL ?_ | refine cl 44 tt rfl rfl rfl (hr := h1) (k := ?_) | refine cl 44 tt rfl rfl rfl (hr := h2) (k := ?_) | refine cl 55 tt rfl rfl rfl (hr := o) (k := ?_) | (refine gdLG ?_ ?_ <;> intro _ <;> try (exfalso; omega)))
    | (show awp _ _ _ _; first | refine goA ?_ | (refine cdG ?_ ?_ <;> intro _ <;> try (exfalso; omega)))
    | (show andThen _ _ _ _; refine goN ?_)
    | (show inBlock _ _ _ _; refine goB ?_)
    | (show retPost _ _ _ _ _; refine finG ?_))
  rfl
end Go.Proofs.YtoppaphffnojdaaGreat

/-
  Matrices of rational numbers: the elimination as the specification has it, where each pivot stands in its place. Conditions: as each says.
-/
set_option linter.unusedVariables false
set_option linter.unusedSimpArgs false
namespace Go.Vw
@[reducible] def qC (q : Rat) : List D := rC (rq q)
@[reducible] def qD (q : Rat) : D := rD (rq q)
@[reducible] def qsD (l : List Rat) : D := .sl 3 qC 0 l
@[reducible] def eQ (l : List Rat) : List D := [qsD l]
@[reducible] def qssD (l : List (List Rat)) : D := .sl 1 eQ [] l

def timesQ (l : List Rat) (c : Rat) : List Rat := l.map (· * c)
def plusQ (a b : List Rat) : List Rat := List.zipWith (· + ·) a b
def at2 (m : List (List Rat)) (i j : Nat) : Rat := (m.getD i []).getD j 0
def scaleQ (m : List (List Rat)) (j : Nat) : List (List Rat) := m.set j (timesQ (m.getD j []) (1 / at2 m j j))
def elimRow (m : List (List Rat)) (j i : Nat) : List Rat := if i = j then m.getD j [] else plusQ (m.getD i []) (timesQ (m.getD j []) (-(at2 m i j)))
def elimI (m : List (List Rat)) (j i : Nat) : List (List Rat) := (List.range i).map (elimRow m j) ++ m.drop i
def redQ (m : List (List Rat)) (j : Nat) : List (List Rat) := elimI (scaleQ m j) j m.length

def smallQ (q : Rat) : Prop := q.num.natAbs < 18446744073709551616 ∧ q.den < 18446744073709551616
theorem limbs_len2 {n : Nat} (h : n < 18446744073709551616) : (limbs n).length < 1000 := Nat.lt_of_le_of_lt (length_limbs_le (n := n) (k := 2) (by rw [B_val]; exact h)) (by decide)
theorem limbs_len4 {n : Nat} (h : n < 18446744073709551616 * 18446744073709551616) : (limbs n).length < 1000 := Nat.lt_of_le_of_lt (length_limbs_le (n := n) (k := 4) (by rw [B_val]; exact h)) (by decide)
theorem smallQ.ok {q : Rat} (h : smallQ q) : okQ 1000000 q := ⟨Nat.lt_trans (limbs_len2 h.1) (by decide), Nat.lt_trans (limbs_len2 h.2) (by decide)⟩
theorem smallQ.neg {q : Rat} (h : smallQ q) : smallQ (-q) := by unfold smallQ at *; rw [show (-q).num = -q.num from rfl, show (-q).den = q.den from rfl, Int.natAbs_neg]; exact h
theorem smallQ.one : smallQ 1 := by unfold smallQ; decide
theorem num_mul_le (x y : Rat) : (x * y).num.natAbs ≤ x.num.natAbs * y.num.natAbs ∧ (x * y).den ≤ x.den * y.den := by
  rw [Rat.num_mul, Rat.den_mul, ← Int.natAbs_mul]
  refine ⟨?_, Nat.div_le_self _ _⟩
  have hd : ((((x.num * y.num).natAbs.gcd (x.den * y.den) : Nat)) : Int) ∣ x.num * y.num := Int.ofNat_dvd_left.2 (Nat.gcd_dvd_left _ _)
  rw [Int.natAbs_ediv_of_dvd hd]
  exact Nat.div_le_self _ _
theorem smallQ.mul {x y : Rat} (hx : smallQ x) (hy : smallQ y) : okQ 1000000 (x * y) := by
  obtain ⟨h1, h2⟩ := num_mul_le x y
  exact ⟨Nat.lt_trans (limbs_len4 (Nat.lt_of_le_of_lt h1 (Nat.mul_lt_mul'' hx.1 hy.1))) (by decide), Nat.lt_trans (limbs_len4 (Nat.lt_of_le_of_lt h2 (Nat.mul_lt_mul'' hx.2 hy.2))) (by decide)⟩
def goodB (n : Nat) (m : List (List Rat)) : Bool := Nat.beq m.length n && m.all fun r => Nat.beq r.length n && r.all fun q => Nat.blt q.num.natAbs 18446744073709551616 && Nat.blt q.den 18446744073709551616
structure GoodM (n : Nat) (m : List (List Rat)) : Prop where
  len : m.length = n
  row : ∀ i, i < n → (m.getD i []).length = n
  small : ∀ i, i < n → ∀ q ∈ m.getD i [], smallQ q
theorem GoodM.at2 {n : Nat} {m : List (List Rat)} (h : GoodM n m) {i j : Nat} (hi : i < n) (hj : j < n) : smallQ (at2 m i j) := by
  refine h.small i hi _ ?_
  unfold Vw.at2
  have hr := h.row i hi
  generalize m.getD i [] = r at *
  rw [List.getD_eq_getElem?_getD, List.getElem?_eq_getElem (by omega)]; exact List.getElem_mem _
def okRun (n : Nat) : Nat → List (List Rat) → Rat → Bool
  | 0, m, _ => goodB n m
  | k + 1, m, f => !(decide (at2 m (n - (k + 1)) (n - (k + 1)) = 0)) && Nat.blt f.num.natAbs 18446744073709551616 && Nat.blt f.den 18446744073709551616 && goodB n m && goodB n (scaleQ m (n - (k + 1))) && okRun n k (redQ m (n - (k + 1))) (f * at2 m (n - (k + 1)) (n - (k + 1)))
def mAt (m : List (List Rat)) : Nat → List (List Rat)
  | 0 => m
  | j + 1 => redQ (mAt m j) j
def facAt (m : List (List Rat)) : Nat → Rat
  | 0 => 1
  | j + 1 => facAt m j * at2 (mAt m j) j j
structure RunOk (n : Nat) (m : List (List Rat)) : Prop where
  good : ∀ j, j ≤ n → GoodM n (mAt m j)
  piv : ∀ j, j < n → at2 (mAt m j) j j ≠ 0
  fac : ∀ j, j < n → smallQ (facAt m j)
  scaled : ∀ j, j < n → GoodM n (scaleQ (mAt m j) j)
end Go.Vw

/-
  Intervals of rational numbers: what the operations are, in plain terms. Conditions: as each says.
-/
set_option linter.unusedVariables false
set_option linter.unusedSimpArgs false
namespace Go.Vw
abbrev I2 := Rat × Rat
@[reducible] def iD (a b : R3) : D := .agg [.bool a.1, u32s a.2.1, u32s a.2.2, .bool b.1, u32s b.2.1, u32s b.2.2]
@[reducible] def iQ (i : I2) : D := iD (rq i.1) (rq i.2)
def takeI (x y : Rat) : I2 := if y < x then (0, 0) else (x, y)
def okI (k : Nat) (i : I2) : Prop := okQ k i.1 ∧ okQ k i.2
def containsI (i : I2) (v : Rat) : Bool := decide (i.1 ≤ v) && decide (v ≤ i.2)
def withinI (a b : I2) : Bool := decide (b.1 ≤ a.1) && decide (a.2 ≤ b.2)
def minQ (x y : Rat) : Rat := if y < x then y else x
def maxQ (x y : Rat) : Rat := if x < y then y else x
def hullL (x : Rat) (l : List Rat) : I2 := (l.foldl minQ x, l.foldl maxQ x)
def addI (a b : I2) : I2 := (a.1 + b.1, a.2 + b.2)
def subI (a b : I2) : I2 := (a.1 - b.2, a.2 - b.1)
def mulI (a b : I2) : I2 := hullL (a.1 * b.1) [a.1 * b.2, a.2 * b.1, a.2 * b.2]
def divI (a b : I2) : I2 := mulI a (1 / b.2, 1 / b.1)
def sqI (a : I2) : I2 := if containsI a 0 then (0, (hullL (a.1 * a.1) [a.2 * a.2]).2) else hullL (a.1 * a.1) [a.2 * a.2]
def hullI (a b : I2) : I2 := hullL a.1 [a.2, b.1, b.2]
def meetI (a b : I2) : Option I2 := if minQ a.2 b.2 < maxQ a.1 b.1 then none else some (maxQ a.1 b.1, minQ a.2 b.2)
theorem getD_ok {k : Nat} {l : List Rat} (h : ∀ q ∈ l, okQ k q) {i : Nat} (hi : i < l.length) : okQ k (l.getD i 0) := by
  have : l.getD i 0 = l[i] := by simp [List.getD_eq_getElem?_getD, hi]
  rw [this]; exact h _ (List.getElem_mem hi)
end Go.Vw

set_option linter.unusedVariables false
set_option linter.unusedSimpArgs false
namespace Go.Proofs.YtoppaphffnojdaaGreat
open Go.Vw
attribute [local irreducible] awp awpL awpR

theorem rational_CompareQ (x y : Rat) (hx : okQ 1000000 x) (hy : okQ 1000000 y) : Ret Tryz.prog 65 [qD x, qD y] (· = .int .i64 (cmpQ x y)) := by
  have := rational_Compare (rq x) (rq y) (ok_rq hx) (ok_rq hy)
  rw [rv_rq, rv_rq] at this
  exact this
theorem rational_MulQ (x y : Rat) (hx : okQ 1000000 x) (hy : okQ 1000000 y) : Ret Tryz.prog 36 [qD x, qD y] (· = qD (x * y)) := by
  have := rational_Mul (rq x) (rq y) (ok_rq hx) (ok_rq hy)
  rw [rv_rq, rv_rq] at this
  exact this
theorem rational_DivQ (x y : Rat) (hx : okQ 1000000 x) (hy : okQ 1000000 y) : Ret Tryz.prog 66 [qD x, qD y] (· = if y = 0 then .tup [rD r0, .int .i64 5] else .tup [qD (x / y), .int .i64 0]) := by
  have := rational_Div (rq x) (rq y) (ok_rq hx) (ok_rq hy)
  rw [rv_rq, rv_rq] at this
  exact this
theorem rational_FloorQ (x : Rat) (hx : okQ 1000000 x) : Ret Tryz.prog 35 [qD x] (· = zD x.floor) := by
  have := rational_Floor (rq x) (ok_rq hx)
  rw [rv_rq] at this
  exact this
theorem ref03_CompareQ (x y : Rat) (hx : okQ 100000 x) (hy : okQ 100000 y) : Ret Tryz.prog 20 [qD x, qD y] (· = .int .i64 (cmpQ x y)) := by
  have := ref03_Compare (rq x) (rq y) (ok_rq hx) (ok_rq hy)
  rw [rv_rq, rv_rq] at this
  exact this
theorem ref03_FloorQ (x : Rat) (hx : okQ 1000000 x) : Ret Tryz.prog 39 [qD x] (· = zD x.floor) := by
  have := ref03_Floor (rq x) (ok_rq hx)
  rw [rv_rq] at this
  exact this
end Go.Proofs.YtoppaphffnojdaaGreat

/-
  What the matrices of the codings hold. Conditions: as each says.
-/
set_option linter.unusedVariables false
namespace Go.Vw
def codingOk (c n : Int) : Bool := decide (1 ≤ c) && decide (c ≤ 4) && decide (1 ≤ n) && decide (n ≤ 32)
def colsZ (c n : Int) : Int := if c = 4 then n else n - 1
def entryZ (c n i j : Int) : Int :=
  if c = 4 then (if i = j then 1 else 0)
  else if c = 1 then (if i = j + 1 then 1 else 0)
  else if c = 2 then (if i = n - 1 then -1 else if i = j then 1 else 0)
  else (if i ≤ j then -1 else if i = j + 1 then j + 1 else 0)
def rowZ (c n : Int) (i k : Nat) : List R3 := (List.range k).map fun j => zR (entryZ c n i (j : Nat))
def matZ (c n : Int) (k : Nat) : List (List R3) := (List.range k).map fun i => rowZ c n i (colsZ c n).toNat
end Go.Vw

set_option linter.unusedVariables false
set_option linter.unusedSimpArgs false
namespace Go.Proofs.YtoppaphffnojdaaGreat
open Go.Vw
attribute [local irreducible] awp awpL awpR

theorem rq_int (z : Int) : rq (z : Rat) = zR z := by
  unfold rq zR
  rw [Rat.num_intCast, Rat.den_intCast]
  rfl
end Go.Proofs.YtoppaphffnojdaaGreat

/-
  Lists of rational numbers in ascending order: by insertion in place, and by insertion into a new list. Conditions: as each says.
-/
set_option linter.unusedVariables false
set_option linter.unusedSimpArgs false
namespace Go.Vw
def srt (l : List Rat) : List Rat := l.mergeSort fun a b => decide (a ≤ b)
def AscQ (l : List Rat) : Prop := l.Pairwise (· ≤ ·)
theorem srt_perm (l : List Rat) : (srt l).Perm l := List.mergeSort_perm _ _
theorem srt_asc (l : List Rat) : AscQ (srt l) := by
  have h := List.pairwise_mergeSort (le := fun a b : Rat => decide (a ≤ b)) (fun a b c h1 h2 => by
    simp only [decide_eq_true_eq] at *
    exact Rat.le_trans h1 h2) (fun a b => by
    rcases Rat.le_total (a := a) (b := b) with h | h <;> simp [h]) l
  exact List.Pairwise.imp (fun h => of_decide_eq_true h) h
theorem asc_unique {a b : List Rat} (ha : AscQ a) (hb : AscQ b) (h : a.Perm b) : a = b :=
  List.Perm.eq_of_pairwise (le := fun x y : Rat => x ≤ y) (fun x y _ _ h1 h2 => Rat.le_antisymm h1 h2) ha hb h
theorem srt_unique {a l : List Rat} (ha : AscQ a) (h : a.Perm l) : a = srt l := asc_unique ha (srt_asc l) (h.trans (srt_perm l).symm)
theorem srt_len (l : List Rat) : (srt l).length = l.length := (srt_perm l).length_eq
theorem asc_getD {l : List Rat} (h : AscQ l) {i j : Nat} (hij : i ≤ j) (hj : j < l.length) : l.getD i 0 ≤ l.getD j 0 := by
  rcases Nat.lt_or_eq_of_le hij with h1 | h1
  · have := List.pairwise_iff_getElem.1 h i j (by omega) hj h1
    simpa [List.getD_eq_getElem?_getD, show i < l.length by omega, hj] using this
  · subst h1; exact Rat.le_refl
theorem asc_of_getD {l : List Rat} (h : ∀ i j, i < j → j < l.length → l.getD i 0 ≤ l.getD j 0) : AscQ l := by
  refine List.pairwise_iff_getElem.2 fun i j hi hj hij => ?_
  have := h i j hij hj
  simpa [List.getD_eq_getElem?_getD, hi, hj] using this
def swapL (l : List Rat) (j : Nat) : List Rat := (l.set (j + 1) (l.getD j 0)).set j (l.getD (j + 1) 0)
def insGo (l : List Rat) : Nat → List Rat
  | 0 => l
  | j + 1 => if l.getD (j + 1) 0 < l.getD j 0 then insGo (swapL l j) j else l
def insTo (l : List Rat) : Nat → List Rat
  | 0 => l
  | i + 1 => insGo (insTo l i) (i + 1)
def Exc (l : List Rat) (j m : Nat) : Prop := (∀ a b, a < b → b ≤ m → a ≠ j → b ≠ j → l.getD a 0 ≤ l.getD b 0) ∧ ∀ b, j < b → b ≤ m → l.getD j 0 ≤ l.getD b 0
end Go.Vw

/-
  Intervals of rational numbers: the two ways to the same results. Conditions: as each says.
-/
set_option linter.unusedVariables false
set_option linter.unusedSimpArgs false
namespace Go.Vw
@[reducible] def iC (a b : R3) : List D := [.bool a.1, u32s a.2.1, u32s a.2.2, .bool b.1, u32s b.2.1, u32s b.2.2]
abbrev zR3 : List V := [.d (.bool false), .d .nils, .d .nils]
abbrev zI : List V := [.d (.bool false), .d .nils, .d .nils, .d (.bool false), .d .nils, .d .nils]
theorem rv_r0 : rv r0 = 0 := by rw [← rq_zero, rv_rq]
theorem ok_r0 {k : Nat} (h : 1 < k) : RatOk r0 k := by
  have h0 : (0 : Nat) < k := Nat.lt_of_succ_lt h
  exact ⟨by intro x hx; exact absurd hx (by simp [r0]), by intro x hx; exact absurd hx (by simp [r0]), by simpa [r0] using h0, by simpa [r0] using h0⟩
def divRef (a b : I2) : I2 := hullL (a.1 / b.1) [a.1 / b.2, a.2 / b.1, a.2 / b.2]
def sqRef (a : I2) : I2 := if containsI a 0 then hullL 0 [a.1 * a.1, a.2 * a.2] else hullL (a.1 * a.1) [a.2 * a.2]
def twoQ (n : Nat) : Rat := ((2 ^ n : Nat) : Int)
def rootN (v : Rat) (n : Nat) : Nat := rt (v * (twoQ n * twoQ n)).floor.natAbs
def rootLo (v : Rat) (n : Nat) : Rat := ((rootN v n : Nat) : Int) / twoQ n
def rootI (v : Rat) (n : Nat) : I2 := if rootLo v n * rootLo v n = v then (rootLo v n, rootLo v n) else (rootLo v n, rootLo v n + 1 / twoQ n)
end Go.Vw

/-
  Intervals of rational numbers: what holds of the results of the operations. Conditions: as each says.
-/
set_option linter.unusedVariables false
set_option linter.unusedSimpArgs false
namespace Go.Vw
def In (i : I2) (v : Rat) : Prop := i.1 ≤ v ∧ v ≤ i.2
theorem withinI_iff {i j : I2} : withinI i j = true ↔ j.1 ≤ i.1 ∧ i.2 ≤ j.2 := by unfold withinI; simp
theorem In.mono {i j : I2} {v : Rat} (h : withinI i j = true) (hv : In i v) : In j v := by
  have := withinI_iff.1 h
  exact ⟨Rat.le_trans this.1 hv.1, Rat.le_trans hv.2 this.2⟩
end Go.Vw

/-
  Square roots in intervals: what holds of the interval of a root. Conditions: as each says.
-/
set_option linter.unusedVariables false
set_option linter.unusedSimpArgs false
namespace Go.Vw
theorem div_mul_cancel' {a b : Rat} (h : b ≠ 0) : a / b * b = a := by rw [Rat.div_def, Rat.mul_assoc, Rat.inv_mul_cancel b h, Rat.mul_one]
end Go.Vw

/-
  Intervals of rational numbers: how long the results are. Conditions: as each says.
-/
set_option linter.unusedVariables false
set_option linter.unusedSimpArgs false
namespace Go.Vw
theorem okQ_one : okQ 2 1 := ⟨by show (limbs 1).length < 2; rw [limbs_one]; decide, by show (limbs 1).length < 2; rw [limbs_one]; decide⟩
theorem okI.mono {k l : Nat} {i : I2} (h : okI k i) (hl : k ≤ l) : okI l i := ⟨h.1.mono hl, h.2.mono hl⟩
end Go.Vw

/-
  Medians and quantiles of rational numbers. Conditions: as each says.
-/
set_option linter.unusedVariables false
set_option linter.unusedSimpArgs false
namespace Go.Vw
def medLo (l : List Rat) : Rat := (srt l).getD ((l.length + 1) / 2 - 1) 0
def medHi (l : List Rat) : Rat := (srt l).getD (l.length / 2) 0
def midQ (l : List Rat) : Rat := (medLo l + medHi l) / 2
def absQ (x : Rat) : Rat := if x < 0 then -x else x
def distQ (l : List Rat) (m : Rat) : List Rat := l.map fun x => absQ (x - m)
def qFirst (p : Rat) (n : Nat) : Int := if 0 < (p * (n : Int)).floor ∧ p * (n : Int) = ((p * (n : Int)).floor : Int) then (p * (n : Int)).floor - 1 else (p * (n : Int)).floor
def qLo (l : List Rat) (p : Rat) : Rat := (srt l).getD (min (qFirst p l.length) ((l.length : Int) - 1)).toNat 0
def qHi (l : List Rat) (p : Rat) : Rat := (srt l).getD (min (p * (l.length : Int)).floor ((l.length : Int) - 1)).toNat 0
theorem srt_ok {k : Nat} {l : List Rat} (h : ∀ q ∈ l, okQ k q) : ∀ q ∈ srt l, okQ k q := fun q hq => h q ((srt_perm l).subset hq)
theorem nonneg_floor {x : Rat} (h : 0 ≤ x) : 0 ≤ x.floor := Rat.le_floor_iff.2 h
theorem mul_nat_nonneg {p : Rat} (n : Nat) (h : 0 ≤ p) : 0 ≤ p * ((n : Int) : Rat) := Rat.mul_nonneg h (by rw [Rat.intCast_natCast]; exact Rat.natCast_nonneg)
theorem mul_nat_le {p : Rat} (n : Nat) (h : p ≤ 1) : p * ((n : Int) : Rat) ≤ ((n : Int) : Rat) := by
  have := Rat.mul_le_mul_of_nonneg_right h (show (0 : Rat) ≤ ((n : Int) : Rat) by rw [Rat.intCast_natCast]; exact Rat.natCast_nonneg)
  rwa [Rat.one_mul] at this
theorem floor_le_nat {x : Rat} {n : Int} (h : x ≤ (n : Rat)) : x.floor ≤ n := Rat.intCast_le_intCast.1 (Rat.le_trans (Rat.floor_le x) h)
end Go.Vw

/-
  Lists of rational numbers as arrays: how the library's laws of sorting speak of them. Conditions: as each says.
-/
set_option linter.unusedVariables false
set_option linter.unusedSimpArgs false
namespace Go.Vw
open Go.Sort hiding swp
def ltQ (x y : Rat) : Bool := decide (x < y)
theorem ltQ_iff {x y : Rat} : ltQ x y = true ↔ x < y := by simp [ltQ]
theorem ltQ_not {x y : Rat} : ltQ x y = false ↔ y ≤ x := by simp [ltQ, Rat.not_lt]
theorem swoQ : SWO ltQ where
  irrefl x := by rw [ltQ_not]; exact Rat.le_refl
  trans x y z h1 h2 := by rw [ltQ_iff] at *; grind
  ntrans x y z h1 h2 := by rw [ltQ_not] at *; exact Rat.le_trans h2 h1
theorem getQ (d : Array Rat) (i : Nat) : d.toList.getD i 0 = d[i]! := by
  rw [List.getD_eq_getElem?_getD, Array.getElem?_toList]
  by_cases h : i < d.size
  · rw [getElem!_pos d i h, Array.getElem?_eq_getElem h]; rfl
  · rw [getElem!_neg d i h, Array.getElem?_eq_none (by omega)]; rfl
theorem swp_toList (d : Array Rat) (i j : Nat) : (Go.Sort.swp d i j).toList = (d.toList.set i (d.toList.getD j 0)).set j (d.toList.getD i 0) := by
  unfold Go.Sort.swp
  rw [Array.toList_setIfInBounds, Array.toList_setIfInBounds, getQ, getQ]
theorem blkSw {ty : TypeId} {sz : Nat} {e : Rat → List D} {z : Rat} {d : Array Rat} {i j a b a' b' : Nat} (h1 : a = i := by omega) (h2 : b = j := by omega) (h3 : a' = i := by omega) (h4 : b' = j := by omega) : some (Blk.data ty sz e z ((d.toList.set a (d.toList.getD b 0)).set b' (d.toList.getD a' 0))) = some (Blk.data ty sz e z (Go.Sort.swp d i j).toList) := by
  subst h1 h2 h3 h4
  rw [swp_toList]
def AllOk (d : Array Rat) : Prop := ∀ q ∈ d.toList, okQ 1000 q
theorem AllOk.get {d : Array Rat} (h : AllOk d) {i : Nat} (hi : i < d.size) : okQ 1000 (d.toList.getD i 0) := getD_ok h (by simpa using hi)
theorem AllOk.iff {d : Array Rat} : AllOk d ↔ ∀ i, i < d.size → okQ 1000 d[i]! := by
  constructor
  · intro h i hi
    rw [← getQ]; exact h.get hi
  · intro h q hq
    obtain ⟨i, hi, rfl⟩ := List.getElem_of_mem hq
    have hi' : i < d.size := by simpa using hi
    have := h i hi'
    rw [getElem!_pos d i hi'] at this
    simpa using this
theorem AllOk.perm {d d' : Array Rat} (h : AllOk d) {a b : Nat} (hab : a ≤ b) (hb : b ≤ d.size) (hp : PermIn a b d d') : AllOk d' := by
  rw [AllOk.iff] at *
  rw [hp.1]
  intro i hi
  exact permIn_all d d' 0 d.size (fun q => okQ 1000 q) (Nat.le_refl _) (permIn_mono d d' a b 0 d.size (Nat.zero_le _) hb (Nat.le_refl _) hp) (fun i _ hi => h i hi) i (Nat.zero_le _) hi
theorem AllOk.swp {d : Array Rat} (h : AllOk d) {i j : Nat} (hi : i < d.size) (hj : j < d.size) : AllOk (Go.Sort.swp d i j) := h.perm (Nat.zero_le d.size) (Nat.le_refl _) (swp_permIn d 0 d.size i j (Nat.zero_le _) hi (Nat.zero_le _) hj (Nat.le_refl _))
theorem sorted_one {d x y : Array Rat} {a b : Nat} (hb : b ≤ d.size) (h1 : PermIn a b d x) (h2 : PermIn a b d y) (s1 : SortedIn ltQ a b x) (s2 : SortedIn ltQ a b y) : x = y := by
  have key : ∀ z : Array Rat, PermIn a b d z → SortedIn ltQ a b z → AscQ (z.extract a b).toList := fun z hz hs => by
    rw [extract_toList z a b (by rw [hz.1]; exact hb)]
    refine List.pairwise_map.2 ?_
    refine List.Pairwise.imp_of_mem ?_ (List.pairwise_lt_range' (s := a) (n := b - a))
    intro i j hi hj hij
    rw [List.mem_range'_1] at hi hj
    exact ltQ_not.1 (hs i j hi.1 hij (by omega))
  have e := asc_unique (key x h1 s1) (key y h2 s2) (h1.2.2.trans h2.2.2.symm)
  rw [extract_toList x a b (by rw [h1.1]; exact hb), extract_toList y a b (by rw [h2.1]; exact hb)] at e
  refine Array.ext (by rw [h1.1, h2.1]) fun i hx hy => ?_
  have g : x[i]! = y[i]! := by
    by_cases h : a ≤ i ∧ i < b
    · have := List.map_inj_left.1 e i (by rw [List.mem_range'_1]; omega)
      exact this
    · rw [h1.2.1 i (by omega), h2.2.1 i (by omega)]
  rw [getElem!_pos x i hx, getElem!_pos y i hy] at g
  exact g
def srtIn (d : Array Rat) (a b : Nat) : Array Rat := insertionSort ltQ d a b
theorem srtIn_perm {d : Array Rat} {a b : Nat} (hab : a ≤ b) (hb : b ≤ d.size) : PermIn a b d (srtIn d a b) := (insertionSort_holds swoQ d a b hab hb).1
theorem srtIn_asc {d : Array Rat} {a b : Nat} (hab : a ≤ b) (hb : b ≤ d.size) : SortedIn ltQ a b (srtIn d a b) := (insertionSort_holds swoQ d a b hab hb).2
theorem srtIn_of {d x : Array Rat} {a b : Nat} (hab : a ≤ b) (hb : b ≤ d.size) (h : PermIn a b d x) (hs : SortedIn ltQ a b x) : x = srtIn d a b := sorted_one hb h (srtIn_perm hab hb) hs (srtIn_asc hab hb)
theorem srtIn_move {d x : Array Rat} {a b : Nat} (hab : a ≤ b) (hb : b ≤ d.size) (h : PermIn a b d x) : srtIn x a b = srtIn d a b := srtIn_of hab hb (permIn_trans d x _ a b h (srtIn_perm hab (by rw [h.1]; exact hb))) (srtIn_asc hab (by rw [h.1]; exact hb))
theorem srtIn_size {d : Array Rat} {a b : Nat} (hab : a ≤ b) (hb : b ≤ d.size) : (srtIn d a b).size = d.size := (srtIn_perm hab hb).1
theorem srtIn_all (d : Array Rat) : (srtIn d 0 d.size).toList = srt d.toList := by
  have hp := srtIn_perm (d := d) (Nat.zero_le d.size) (Nat.le_refl _)
  have hs := srtIn_asc (d := d) (Nat.zero_le d.size) (Nat.le_refl _)
  refine srt_unique (asc_of_getD fun i j hij hj => ?_) ?_
  · rw [getQ, getQ]
    exact ltQ_not.1 (hs i j (Nat.zero_le _) hij (by rw [← hp.1]; simpa using hj))
  · have := hp.2.2
    have e := hp.1
    generalize srtIn d 0 d.size = x at *
    rw [← e, show x.extract 0 x.size = x by simp, e, show d.extract 0 d.size = d by simp] at this
    exact this
end Go.Vw

/-
  A variable's data in another form; reading a literal as a list. Conditions: as each says.
-/
set_option linter.unusedVariables false
set_option linter.unusedSimpArgs false
namespace Go.Vw
section
variable {X : Ctx} {all : Array Oper} {s : St} {o : Oper} {Q : Exit → St → Prop} {rest : List Oper} {d : Tmp} {α : Type} {en : α → List D} {z : α} {l : List α}
theorem e_litO {e : TypeId} {sz len : Nat} {rows : List (List D)} {dst : Option Tmp} {op : Op} {ty : TypeId} {pos : String} {after : Array Edge} {g : Option (Nat × Bool)} (hdst : dst = some d) (hg : gd all s ⟨dst, op, ty, pos, after, g⟩ = some true) (hd : dstOk X.N (some d) = true) (hK : X.K.contains d = false) (h : evalB X.T s op = some (e, sz, len, rows)) (hr : LeR sz rows en l) :
    E1 X all s ⟨dst, op, ty, pos, after, g⟩ ((s.new d (.data e sz en z l)).put (some d) (.own d 0 len e sz)) := by
  subst hdst
  intro io F a w hs K Q hQ
  have hw := gd_sound (fun t _ => hs.tm t) hg
  obtain ⟨h1, arr, h2, h3, h4, h5⟩ := evalB_sound (P := X.P) (ev := a.eval) X.ok ⟨some d, op, ty, pos, after, g⟩ (fun y _ => hs.opd y) h
  obtain ⟨r1, r2⟩ := hr.spec
  have hlra : LRA F w (fun j => arr[j]?) 0 sz en l := fun i b hi => by
    have hlt : i < rows.length := by have := (List.getElem?_eq_some_iff.1 hi).1; omega
    obtain ⟨q1, q2⟩ := r2 i _ b (List.getElem?_eq_getElem hlt) hi
    obtain ⟨p1, p2⟩ := h5 i _ (List.getElem?_eq_getElem hlt)
    exact ⟨q2.1 ▸ q1, by rw [Nat.zero_add]; exact q2.2 F w _ _ p2⟩
  have hnb := hs.newBlk d (notMem hK) e arr (.data e sz en z l) (.inl ⟨_, _, _, _, _, rfl, hlra⟩)
  refine opWp_value hw h2 (hQ _ F _ _ (hnb.put (dstOk_sound hd) ?_))
  simp only [VR]
  refine .inr ⟨w.heap.size, len, _, updio_same _ _ _, by rw [Nat.zero_mul], by omega, by unfold maxLen; omega, heap_alloc_new w _, by simp [h3], ?_⟩
  show 0 + len ≤ (s.new d _).ln d
  rw [show (s.new d (.data e sz en z l)).ln d = _ from ln_of withBlk_same]
  simp [Blk.ln]; omega
theorem stepLitO {e : TypeId} {sz len : Nat} {rows : List (List D)} (hdst : o.dst = some d) (h : evalB X.T s o.op = some (e, sz, len, rows)) (hg : gd all s o = some true) (hd : dstOk X.N (some d) = true) (hK : X.K.contains d = false) (hr : LeR sz rows en l) (r : awpL X all rest Q ((s.new d (.data e sz en z l)).put (some d) (.own d 0 len e sz))) : awpL X all (o :: rest) Q s := by
  obtain ⟨dst, op, ty, pos, after, g⟩ := o
  exact awpL_step (e_litO hdst hg hd hK h hr) r
end
end Go.Vw

set_option linter.unusedVariables false
set_option linter.unusedSimpArgs false
set_option maxHeartbeats 8000000
namespace Go.Proofs.YtoppaphffnojdaaGreat
open Go.Vw
attribute [local irreducible] awp awpL awpR

abbrev bq (d : Array Rat) : Blk := .data 27 3 qC 0 d.toList
abbrev ow (d : Array Rat) : V := .own 1000 0 d.size 27 3
abbrev bi (s : Nat) : Blk := .box 3 [.d (.int .i64 s)]
abbrev cmpV : V := .fn 65 []
theorem cmpR (x y : Rat) (hx : okQ 1000 x) (hy : okQ 1000 y) : ∃ u : Int, -1 ≤ u ∧ u ≤ 1 ∧ (u < 0 ↔ ltQ x y = true) ∧ Ret Tryz.prog 65 [qD x, qD y] (· = .int .i64 u) :=
  ⟨cmpQ x y, (cmpQ_range x y).1, (cmpQ_range x y).2, by rw [cmpQ_neg, ltQ_iff], rational_CompareQ x y (hx.mono (by decide)) (hy.mono (by decide))⟩
theorem sl_order2 (d : Array Rat) (a b s : Nat) (hd : AllOk d) (hn : d.size < 1000000000) (ha : a < d.size) (hb : b < d.size) (hs : s < 1000) : RetB Tryz.prog 174 [ow d, .d (.int .i64 a), .d (.int .i64 b), .ptr 11 0, cmpV] (lookB [(1000, bq d), (11, bi s)]) (.tup [.d (.int .i64 (Go.Sort.order2 ltQ d a b s).1), .d (.int .i64 (Go.Sort.order2 ltQ d a b s).2.1)]) (lookB [(1000, bq d), (11, bi (Go.Sort.order2 ltQ d a b s).2.2)]) := by
  have hl : d.toList.length = d.size := Array.length_toList
  obtain ⟨u, u1, u2, hu, c⟩ := cmpR (d.toList.getD b 0) (d.toList.getD a 0) (hd.get hb) (hd.get ha)
  rw [getQ, getQ] at hu
  unfold Go.Sort.order2
  by_cases h : ltQ d[b]! d[a]! = true
  · rw [if_pos h]
    have h2 := hu.2 h
    clear hu h
    refine retB_of_awp tab [1000, 11] Tryz.func174 rfl rfl rfl (Nat.le_of_ble_eq_true rfl) rfl ⟨Nat.le_refl _, Nat.le_refl _, trivial⟩ (fun w0 F0 A io0 => ?_)
    repeat' (first
      | (show awpL _ _ _ _ _; first | refine goL ?_ | refine cl 65 tt rfl rfl rfl (hr := c) (k := ?_) | (refine gdLG ?_ ?_ <;> intro _ <;> try (exfalso; omega)))
      | (show awp _ _ _ _; first | refine goA ?_ | refine rg 1 9 ?_ | (refine cdG ?_ ?_ <;> intro _ <;> try (exfalso; omega)))
      | (show andThen _ _ _ _; refine goN ?_)
      | (show inBlock _ _ _ _; refine goB ?_)
      | (show awpR _ _ _ _ _ _ _; first | refine goR ?_ | refine clR 65 tt rfl rfl rfl (hr := c) (k := ?_) | (refine gdRG ?_ ?_ <;> intro _ <;> try (exfalso; omega)))
      | (show retPost _ _ _ _ _; refine finG ?_)
      | (show retPostB _ _ _ _ _ _; first | refine finB rfl rfl ?_ ?_ | refine finBT rfl rfl rfl ?_ ?_))
    all_goals first | exact leVT | exact ⟨rfl, rfl, trivial⟩
  · rw [if_neg h]
    have h2 := mt hu.1 h
    clear hu h
    refine retB_of_awp tab [1000, 11] Tryz.func174 rfl rfl rfl (Nat.le_of_ble_eq_true rfl) rfl ⟨Nat.le_refl _, Nat.le_refl _, trivial⟩ (fun w0 F0 A io0 => ?_)
    repeat' (first
      | (show awpL _ _ _ _ _; first | refine goL ?_ | refine cl 65 tt rfl rfl rfl (hr := c) (k := ?_) | (refine gdLG ?_ ?_ <;> intro _ <;> try (exfalso; omega)))
      | (show awp _ _ _ _; first | refine goA ?_ | refine rg 1 9 ?_ | (refine cdG ?_ ?_ <;> intro _ <;> try (exfalso; omega)))
      | (show andThen _ _ _ _; refine goN ?_)
      | (show inBlock _ _ _ _; refine goB ?_)
      | (show awpR _ _ _ _ _ _ _; first | refine goR ?_ | refine clR 65 tt rfl rfl rfl (hr := c) (k := ?_) | (refine gdRG ?_ ?_ <;> intro _ <;> try (exfalso; omega)))
      | (show retPost _ _ _ _ _; refine finG ?_)
      | (show retPostB _ _ _ _ _ _; first | refine finB rfl rfl ?_ ?_ | refine finBT rfl rfl rfl ?_ ?_))
    all_goals first | exact leVT | exact ⟨rfl, rfl, trivial⟩
theorem order2_s (d : Array Rat) (a b s : Nat) : (Go.Sort.order2 ltQ d a b s).2.2 ≤ s + 1 := by
  unfold Go.Sort.order2
  split <;> simp
theorem sl_median (d : Array Rat) (a b c s : Nat) (hd : AllOk d) (hn : d.size < 1000000000) (ha : a < d.size) (hb : b < d.size) (hc : c < d.size) (hs : s < 990) : RetB Tryz.prog 173 [ow d, .d (.int .i64 a), .d (.int .i64 b), .d (.int .i64 c), .ptr 11 0, cmpV] (lookB [(1000, bq d), (11, bi s)]) (.d (.int .i64 (Go.Sort.median ltQ d a b c s).1)) (lookB [(1000, bq d), (11, bi (Go.Sort.median ltQ d a b c s).2)]) := by
  have hl : d.toList.length = d.size := Array.length_toList
  unfold Go.Sort.median
  have m1 := Go.Sort.order2_mem ltQ d a b s
  have s1 := order2_s d a b s
  have o1 := sl_order2 d a b s hd hn ha hb (by omega)
  generalize Go.Sort.order2 ltQ d a b s = r1 at *
  obtain ⟨x1, y1, t1⟩ := r1
  simp only at *
  have m2 := Go.Sort.order2_mem ltQ d y1 c t1
  have s2 := order2_s d y1 c t1
  have o2 := sl_order2 d y1 c t1 hd hn (by omega) hc (by omega)
  generalize Go.Sort.order2 ltQ d y1 c t1 = r2 at *
  obtain ⟨x2, y2, t2⟩ := r2
  simp only at *
  have o3 := sl_order2 d x1 x2 t2 hd hn (by omega) (by omega) (by omega)
  generalize Go.Sort.order2 ltQ d x1 x2 t2 = r3 at *
  obtain ⟨x3, y3, t3⟩ := r3
  simp only at *
  refine retB_of_awp tab [1000, 11] Tryz.func173 rfl rfl rfl (Nat.le_of_ble_eq_true rfl) rfl ⟨Nat.le_refl _, Nat.le_refl _, trivial⟩ (fun w0 F0 A io0 => ?_)
  repeat' (first
    | (show awpL _ _ _ _ _; first | refine goL ?_ | refine clB 174 [] (o1) tt rfl rfl rfl rfl rfl rfl leVT allB ?_ | refine clB 174 [] (o2) tt rfl rfl rfl rfl rfl rfl leVT allB ?_ | refine clB 174 [] (o3) tt rfl rfl rfl rfl rfl rfl leVT allB ?_ | (refine gdLG ?_ ?_ <;> intro _ <;> try (exfalso; omega)))
    | (show awp _ _ _ _; first | refine goA ?_ | (refine cdG ?_ ?_ <;> intro _ <;> try (exfalso; omega)))
    | (show andThen _ _ _ _; refine goN ?_)
    | (show inBlock _ _ _ _; refine goB ?_)
    | (show retPost _ _ _ _ _; refine finG ?_)
    | (show retPostB _ _ _ _ _ _; first | refine finB rfl rfl ?_ ?_ | refine finBT rfl rfl rfl ?_ ?_))
  all_goals first | exact leVT | exact ⟨rfl, rfl, trivial⟩
theorem median_s (d : Array Rat) (a b c s : Nat) : (Go.Sort.median ltQ d a b c s).2 ≤ s + 3 := by
  have h1 := order2_s d a b s
  have h2 := order2_s d (Go.Sort.order2 ltQ d a b s).2.1 c (Go.Sort.order2 ltQ d a b s).2.2
  exact Nat.le_trans (order2_s d _ _ _) (by omega)
theorem sl_medianAdj (d : Array Rat) (a s : Nat) (hd : AllOk d) (hn : d.size < 1000000000) (ha : a + 1 < d.size) (h0 : 0 < a) (hs : s < 990) : RetB Tryz.prog 172 [ow d, .d (.int .i64 a), .ptr 11 0, cmpV] (lookB [(1000, bq d), (11, bi s)]) (.d (.int .i64 (Go.Sort.medianAdjacent ltQ d a s).1)) (lookB [(1000, bq d), (11, bi (Go.Sort.medianAdjacent ltQ d a s).2)]) := by
  have hl : d.toList.length = d.size := Array.length_toList
  unfold Go.Sort.medianAdjacent
  have o1 := sl_median d (a - 1) a (a + 1) s hd hn (by omega) (by omega) (by omega) hs
  generalize Go.Sort.median ltQ d (a - 1) a (a + 1) s = r at *
  refine retB_of_awp tab [1000, 11] Tryz.func172 rfl rfl rfl (Nat.le_of_ble_eq_true rfl) rfl ⟨Nat.le_refl _, Nat.le_refl _, trivial⟩ (fun w0 F0 A io0 => ?_)
  repeat' (first
    | (show awpL _ _ _ _ _; first | refine goL ?_ | refine clB 173 [] (o1) tt rfl rfl rfl rfl rfl rfl leVT allB ?_ | (refine gdLG ?_ ?_ <;> intro _ <;> try (exfalso; omega)))
    | (show awp _ _ _ _; first | refine goA ?_ | (refine cdG ?_ ?_ <;> intro _ <;> try (exfalso; omega)))
    | (show andThen _ _ _ _; refine goN ?_)
    | (show inBlock _ _ _ _; refine goB ?_)
    | (show retPost _ _ _ _ _; refine finG ?_)
    | (show retPostB _ _ _ _ _ _; first | refine finB rfl rfl ?_ ?_ | refine finBT rfl rfl rfl ?_ ?_))
  all_goals first | exact leVT | exact ⟨rfl, rfl, trivial⟩
theorem medianAdj_s (d : Array Rat) (a s : Nat) : (Go.Sort.medianAdjacent ltQ d a s).2 ≤ s + 3 := median_s d (a - 1) a (a + 1) s
def hintN : Go.Sort.Hint → Int
  | .unknown => 0
  | .increasing => 1
  | .decreasing => 2
theorem sl_choose (d : Array Rat) (a b : Nat) (hd : AllOk d) (hn : d.size < 1000000000) (hab : a + 12 < b) (hb : b ≤ d.size) : RetB Tryz.prog 162 [ow d, .d (.int .i64 a), .d (.int .i64 b), cmpV] (lookB [(1000, bq d)]) (.tup [.d (.int .i64 (Go.Sort.choosePivot ltQ d a b).1), .d (.int .i64 (hintN (Go.Sort.choosePivot ltQ d a b).2))]) (lookB [(1000, bq d)]) := by
  have hl : d.toList.length = d.size := Array.length_toList
  unfold Go.Sort.choosePivot
  dsimp only
  rw [if_pos (show b - a ≥ 8 by omega)]
  by_cases h50 : b - a ≥ 50
  · rw [if_pos h50]
    have m1 := Go.Sort.medianAdjacent_mem ltQ d (a + (b - a) / 4 * 1) 0
    have s1 := medianAdj_s d (a + (b - a) / 4 * 1) 0
    have o1 := sl_medianAdj d (a + (b - a) / 4 * 1) 0 hd hn (by omega) (by omega) (by omega)
    generalize Go.Sort.medianAdjacent ltQ d (a + (b - a) / 4 * 1) 0 = r1 at *
    obtain ⟨x1, t1⟩ := r1
    simp only at *
    have m2 := Go.Sort.medianAdjacent_mem ltQ d (a + (b - a) / 4 * 2) t1
    have s2 := medianAdj_s d (a + (b - a) / 4 * 2) t1
    have o2 := sl_medianAdj d (a + (b - a) / 4 * 2) t1 hd hn (by omega) (by omega) (by omega)
    generalize Go.Sort.medianAdjacent ltQ d (a + (b - a) / 4 * 2) t1 = r2 at *
    obtain ⟨x2, t2⟩ := r2
    simp only at *
    have m3 := Go.Sort.medianAdjacent_mem ltQ d (a + (b - a) / 4 * 3) t2
    have s3 := medianAdj_s d (a + (b - a) / 4 * 3) t2
    have o3 := sl_medianAdj d (a + (b - a) / 4 * 3) t2 hd hn (by omega) (by omega) (by omega)
    generalize Go.Sort.medianAdjacent ltQ d (a + (b - a) / 4 * 3) t2 = r3 at *
    obtain ⟨x3, t3⟩ := r3
    simp only at *
    have s4 := median_s d x1 x2 x3 t3
    have o4 := sl_median d x1 x2 x3 t3 hd hn (by omega) (by omega) (by omega) (by omega)
    generalize Go.Sort.median ltQ d x1 x2 x3 t3 = r4 at *
    obtain ⟨x4, t4⟩ := r4
    simp only at *
    by_cases z0 : t4 = 0
    · rw [if_pos z0]
      refine retB_of_awp tab [1000] Tryz.func162 rfl rfl rfl (Nat.le_of_ble_eq_true rfl) rfl ⟨Nat.le_refl _, trivial⟩ (fun w0 F0 A io0 => ?_)
      repeat' (first
        | (show awpL _ _ _ _ _; first | refine goL ?_ | refine clB 172 [] (o1) tt rfl rfl rfl rfl rfl rfl leVT allB ?_ | refine clB 172 [] (o2) tt rfl rfl rfl rfl rfl rfl leVT allB ?_ | refine clB 172 [] (o3) tt rfl rfl rfl rfl rfl rfl leVT allB ?_ | refine clB 173 [] (o4) tt rfl rfl rfl rfl rfl rfl leVT allB ?_ | (refine gdLG ?_ ?_ <;> intro _ <;> try (exfalso; omega)))
        | (show awp _ _ _ _; first | refine goA ?_ | (refine cdG ?_ ?_ <;> intro _ <;> try (exfalso; omega)))
        | (show andThen _ _ _ _; refine goN ?_)
        | (show inBlock _ _ _ _; refine goB ?_)
        | (show retPost _ _ _ _ _; refine finG ?_)
        | (show retPostB _ _ _ _ _ _; first | refine finB rfl rfl ?_ ?_ | refine finBT rfl rfl rfl ?_ ?_))
      all_goals first | exact leVT | exact ⟨rfl, trivial⟩
    · rw [if_neg z0]
      by_cases z1 : t4 = 12
      · rw [if_pos z1]
        refine retB_of_awp tab [1000] Tryz.func162 rfl rfl rfl (Nat.le_of_ble_eq_true rfl) rfl ⟨Nat.le_refl _, trivial⟩ (fun w0 F0 A io0 => ?_)
        repeat' (first
          | (show awpL _ _ _ _ _; first | refine goL ?_ | refine clB 172 [] (o1) tt rfl rfl rfl rfl rfl rfl leVT allB ?_ | refine clB 172 [] (o2) tt rfl rfl rfl rfl rfl rfl leVT allB ?_ | refine clB 172 [] (o3) tt rfl rfl rfl rfl rfl rfl leVT allB ?_ | refine clB 173 [] (o4) tt rfl rfl rfl rfl rfl rfl leVT allB ?_ | (refine gdLG ?_ ?_ <;> intro _ <;> try (exfalso; omega)))
          | (show awp _ _ _ _; first | refine goA ?_ | (refine cdG ?_ ?_ <;> intro _ <;> try (exfalso; omega)))
          | (show andThen _ _ _ _; refine goN ?_)
          | (show inBlock _ _ _ _; refine goB ?_)
          | (show retPost _ _ _ _ _; refine finG ?_)
          | (show retPostB _ _ _ _ _ _; first | refine finB rfl rfl ?_ ?_ | refine finBT rfl rfl rfl ?_ ?_))
        all_goals first | exact leVT | exact ⟨rfl, trivial⟩
      · rw [if_neg z1]
        refine retB_of_awp tab [1000] Tryz.func162 rfl rfl rfl (Nat.le_of_ble_eq_true rfl) rfl ⟨Nat.le_refl _, trivial⟩ (fun w0 F0 A io0 => ?_)
        repeat' (first
          | (show awpL _ _ _ _ _; first | refine goL ?_ | refine clB 172 [] (o1) tt rfl rfl rfl rfl rfl rfl leVT allB ?_ | refine clB 172 [] (o2) tt rfl rfl rfl rfl rfl rfl leVT allB ?_ | refine clB 172 [] (o3) tt rfl rfl rfl rfl rfl rfl leVT allB ?_ | refine clB 173 [] (o4) tt rfl rfl rfl rfl rfl rfl leVT allB ?_ | (refine gdLG ?_ ?_ <;> intro _ <;> try (exfalso; omega)))
          | (show awp _ _ _ _; first | refine goA ?_ | (refine cdG ?_ ?_ <;> intro _ <;> try (exfalso; omega)))
          | (show andThen _ _ _ _; refine goN ?_)
          | (show inBlock _ _ _ _; refine goB ?_)
          | (show retPost _ _ _ _ _; refine finG ?_)
          | (show retPostB _ _ _ _ _ _; first | refine finB rfl rfl ?_ ?_ | refine finBT rfl rfl rfl ?_ ?_))
        all_goals first | exact leVT | exact ⟨rfl, trivial⟩
  · rw [if_neg h50]
    have s4 := median_s d (a + (b - a) / 4 * 1) (a + (b - a) / 4 * 2) (a + (b - a) / 4 * 3) 0
    have o4 := sl_median d (a + (b - a) / 4 * 1) (a + (b - a) / 4 * 2) (a + (b - a) / 4 * 3) 0 hd hn (by omega) (by omega) (by omega) (by omega)
    generalize Go.Sort.median ltQ d (a + (b - a) / 4 * 1) (a + (b - a) / 4 * 2) (a + (b - a) / 4 * 3) 0 = r4 at *
    obtain ⟨x4, t4⟩ := r4
    simp only at *
    by_cases z0 : t4 = 0
    · rw [if_pos z0]
      refine retB_of_awp tab [1000] Tryz.func162 rfl rfl rfl (Nat.le_of_ble_eq_true rfl) rfl ⟨Nat.le_refl _, trivial⟩ (fun w0 F0 A io0 => ?_)
      repeat' (first
        | (show awpL _ _ _ _ _; first | refine goL ?_ | refine clB 173 [] (o4) tt rfl rfl rfl rfl rfl rfl leVT allB ?_ | (refine gdLG ?_ ?_ <;> intro _ <;> try (exfalso; omega)))
        | (show awp _ _ _ _; first | refine goA ?_ | (refine cdG ?_ ?_ <;> intro _ <;> try (exfalso; omega)))
        | (show andThen _ _ _ _; refine goN ?_)
        | (show inBlock _ _ _ _; refine goB ?_)
        | (show retPost _ _ _ _ _; refine finG ?_)
        | (show retPostB _ _ _ _ _ _; first | refine finB rfl rfl ?_ ?_ | refine finBT rfl rfl rfl ?_ ?_))
      all_goals first | exact leVT | exact ⟨rfl, trivial⟩
    · rw [if_neg z0]
      by_cases z1 : t4 = 12
      · rw [if_pos z1]
        refine retB_of_awp tab [1000] Tryz.func162 rfl rfl rfl (Nat.le_of_ble_eq_true rfl) rfl ⟨Nat.le_refl _, trivial⟩ (fun w0 F0 A io0 => ?_)
        repeat' (first
          | (show awpL _ _ _ _ _; first | refine goL ?_ | refine clB 173 [] (o4) tt rfl rfl rfl rfl rfl rfl leVT allB ?_ | (refine gdLG ?_ ?_ <;> intro _ <;> try (exfalso; omega)))
          | (show awp _ _ _ _; first | refine goA ?_ | (refine cdG ?_ ?_ <;> intro _ <;> try (exfalso; omega)))
          | (show andThen _ _ _ _; refine goN ?_)
          | (show inBlock _ _ _ _; refine goB ?_)
          | (show retPost _ _ _ _ _; refine finG ?_)
          | (show retPostB _ _ _ _ _ _; first | refine finB rfl rfl ?_ ?_ | refine finBT rfl rfl rfl ?_ ?_))
        all_goals first | exact leVT | exact ⟨rfl, trivial⟩
      · rw [if_neg z1]
        refine retB_of_awp tab [1000] Tryz.func162 rfl rfl rfl (Nat.le_of_ble_eq_true rfl) rfl ⟨Nat.le_refl _, trivial⟩ (fun w0 F0 A io0 => ?_)
        repeat' (first
          | (show awpL _ _ _ _ _; first | refine goL ?_ | refine clB 173 [] (o4) tt rfl rfl rfl rfl rfl rfl leVT allB ?_ | (refine gdLG ?_ ?_ <;> intro _ <;> try (exfalso; omega)))
          | (show awp _ _ _ _; first | refine goA ?_ | (refine cdG ?_ ?_ <;> intro _ <;> try (exfalso; omega)))
          | (show andThen _ _ _ _; refine goN ?_)
          | (show inBlock _ _ _ _; refine goB ?_)
          | (show retPost _ _ _ _ _; refine finG ?_)
          | (show retPostB _ _ _ _ _ _; first | refine finB rfl rfl ?_ ?_ | refine finBT rfl rfl rfl ?_ ?_))
        all_goals first | exact leVT | exact ⟨rfl, trivial⟩
theorem reverse_size (d : Array Rat) {a b : Nat} (hab : a ≤ b) (hb : b ≤ d.size) : (Go.Sort.reverseRange d a b).size = d.size := (Go.Sort.reverseRange_holds d a b hab hb).1
theorem sl_reverse (d : Array Rat) (a b : Nat) (hn : d.size < 1000000000) (hab : a < b) (hb : b ≤ d.size) : RetB Tryz.prog 163 [ow d, .d (.int .i64 a), .d (.int .i64 b), cmpV] (lookB [(1000, bq d)]) (.tup []) (lookB [(1000, bq (Go.Sort.reverseRange d a b))]) := by
  have hl : d.toList.length = d.size := Array.length_toList
  have hr := reverse_size d (Nat.le_of_lt hab) hb
  obtain ⟨R, hR⟩ : ∃ R, Go.Sort.reverseRange d a b = R := ⟨_, rfl⟩
  have hR2 : Go.Sort.reverseLoop a (b - 1) d = R := hR
  rw [hR] at hr ⊢
  clear hR
  refine retB_of_awp tab [1000] Tryz.func163 rfl rfl rfl (Nat.le_of_ble_eq_true rfl) rfl ⟨by show d.toList.length ≤ R.toList.length; simp [hr], trivial⟩ (fun w0 F0 A io0 => ?_)
  repeat' (first
    | (show awpL _ _ _ _ _; first | refine goL ?_ | (refine gdLG ?_ ?_ <;> intro _ <;> try (exfalso; omega)))
    | (show awp _ _ _ _; first | refine goA ?_ | refine rg 3 14 ?_ | (refine cdG ?_ ?_ <;> intro _ <;> try (exfalso; omega)))
    | (show andThen _ _ _ _; refine goN ?_)
    | (show inBlock _ _ _ _; refine goB ?_)
    | (show awpR _ _ _ _ _ _ _; first | refine goR ?_ | (refine gdRG ?_ ?_ <;> intro _ <;> try (exfalso; omega)))
    | (show retPost _ _ _ _ _; refine finG ?_)
    | (show retPostB _ _ _ _ _ _; first | refine finB rfl rfl ?_ ?_ | refine finBT rfl rfl rfl ?_ ?_))
  refine awp_loop3 (fun (m : Array Rat) (i j : Nat) => ([(0, ow d), (8, .d (.int .i64 i)), (9, .d (.int .i64 j))], [(1000, bq m)])) (fun m i j => m.size = d.size ∧ j < d.size ∧ Go.Sort.reverseLoop i j m = R) (fun m i j => j - i) d a (b - 1) ⟨rfl, by omega, hR2⟩ ⟨rfl, rfl, iv (by omega), rfl⟩ ⟨rfl, trivial⟩ (fun m i j hi => ?_)
  obtain ⟨h1, h2, h3⟩ := hi
  have hml : m.toList.length = m.size := Array.length_toList
  rw [Go.Sort.reverseLoop] at h3
  by_cases h : i < j
  · rw [if_pos h] at h3
    clear hR2 hl
    repeat' (first
      | (show awpL _ _ _ _ _; first | refine goL ?_ | (refine gdLG ?_ ?_ <;> intro _ <;> try (exfalso; omega)))
      | (show awp _ _ _ _; first | refine goA ?_ | refine rg 3 14 ?_ | (refine cdG ?_ ?_ <;> intro _ <;> try (exfalso; omega)))
      | (show andThen _ _ _ _; refine goN ?_)
      | (show inBlock _ _ _ _; refine goB ?_)
      | (show awpR _ _ _ _ _ _ _; first | refine goR ?_ | (refine gdRG ?_ ?_ <;> intro _ <;> try (exfalso; omega)))
      | (show retPost _ _ _ _ _; refine finG ?_)
      | (show retPostB _ _ _ _ _ _; first | refine finB rfl rfl ?_ ?_ | refine finBT rfl rfl rfl ?_ ?_))
    exact ⟨Go.Sort.swp m i j, i + 1, j - 1, ⟨by rw [Go.Sort.size_swp]; exact h1, by omega, h3⟩, by omega, ⟨rfl, iv (by omega), iv (by omega), rfl⟩, blkSw, trivial⟩
  · rw [if_neg h] at h3
    subst h3
    clear hR2 hl
    repeat' (first
      | (show awpL _ _ _ _ _; first | refine goL ?_ | (refine gdLG ?_ ?_ <;> intro _ <;> try (exfalso; omega)))
      | (show awp _ _ _ _; first | refine goA ?_ | refine rg 3 14 ?_ | (refine cdG ?_ ?_ <;> intro _ <;> try (exfalso; omega)))
      | (show andThen _ _ _ _; refine goN ?_)
      | (show inBlock _ _ _ _; refine goB ?_)
      | (show awpR _ _ _ _ _ _ _; first | refine goR ?_ | (refine gdRG ?_ ?_ <;> intro _ <;> try (exfalso; omega)))
      | (show retPost _ _ _ _ _; refine finG ?_)
      | (show retPostB _ _ _ _ _ _; first | refine finB rfl rfl ?_ ?_ | refine finBT rfl rfl rfl ?_ ?_))
    all_goals first | exact leVT | exact ⟨rfl, trivial⟩
end Go.Proofs.YtoppaphffnojdaaGreat
