/-
  Contracts of functions of the program, and the layer that they are walked with: OrdersC W13. Conditions: as each says.
-/
import Derived.Test.YtfnckkfbnnbmkaaGreatA08
/-
  The sum of distances is least at the medians. Conditions: as each says.
-/
set_option linter.unusedVariables false
set_option linter.unusedSimpArgs false
namespace Go.Vw
def dsum (l : List Rat) (v : Rat) : Rat := l.foldl (fun s x => s + absQ (x - v)) 0
theorem dsum_acc (v : Rat) : ∀ (l : List Rat) (a : Rat), l.foldl (fun s x => s + absQ (x - v)) a = a + l.foldl (fun s x => s + absQ (x - v)) 0
  | [], a => by simp [Rat.add_zero]
  | x :: l, a => by
    rw [List.foldl_cons, List.foldl_cons, dsum_acc v l (a + absQ (x - v)), dsum_acc v l (0 + absQ (x - v)), Rat.zero_add, Rat.add_assoc]
theorem dsum_cons (x : Rat) (l : List Rat) (v : Rat) : dsum (x :: l) v = absQ (x - v) + dsum l v := by
  unfold dsum
  rw [List.foldl_cons, dsum_acc, Rat.zero_add]
theorem abs_up {x v w : Rat} (h : v ≤ w) : absQ (x - v) + (if x ≤ v then w - v else v - w) ≤ absQ (x - w) := by
  unfold absQ
  (repeat' split) <;> grind
theorem abs_down {x v w : Rat} (h : w ≤ v) : absQ (x - v) + (if v ≤ x then v - w else w - v) ≤ absQ (x - w) := by
  unfold absQ
  (repeat' split) <;> grind
theorem dsum_up {v w : Rat} (h : v ≤ w) : ∀ l : List Rat, dsum l v + (w - v) * (((2 * (cntLe l v : Nat) - (l.length : Nat) : Int)) : Rat) ≤ dsum l w
  | [] => by
    simp [dsum, cntLe]
    rw [Rat.zero_add]; exact Rat.le_refl
  | x :: l => by
    have ih := dsum_up h l
    rw [dsum_cons, dsum_cons]
    have ha := abs_up (x := x) h
    by_cases hx : x ≤ v
    · rw [if_pos hx] at ha
      have e : ((2 * (cntLe (x :: l) v : Nat) - ((x :: l).length : Nat) : Int)) = (2 * (cntLe l v : Nat) - (l.length : Nat) : Int) + 1 := by
        unfold cntLe
        rw [List.filter_cons_of_pos (by simpa using hx)]
        simp only [List.length_cons]
        omega
      rw [e, Rat.intCast_add, Rat.mul_add, show ((1 : Int) : Rat) = 1 from rfl, Rat.mul_one]
      grind
    · rw [if_neg hx] at ha
      have e : ((2 * (cntLe (x :: l) v : Nat) - ((x :: l).length : Nat) : Int)) = (2 * (cntLe l v : Nat) - (l.length : Nat) : Int) + (-1) := by
        unfold cntLe
        rw [List.filter_cons_of_neg (by simpa using hx)]
        simp only [List.length_cons]
        omega
      rw [e, Rat.intCast_add, Rat.mul_add, show ((-1 : Int) : Rat) = -1 from rfl]
      grind
theorem dsum_down {v w : Rat} (h : w ≤ v) : ∀ l : List Rat, dsum l v + (v - w) * (((2 * (cntGe l v : Nat) - (l.length : Nat) : Int)) : Rat) ≤ dsum l w
  | [] => by
    simp [dsum, cntGe]
    rw [Rat.zero_add]; exact Rat.le_refl
  | x :: l => by
    have ih := dsum_down h l
    rw [dsum_cons, dsum_cons]
    have ha := abs_down (x := x) h
    by_cases hx : v ≤ x
    · rw [if_pos hx] at ha
      have e : ((2 * (cntGe (x :: l) v : Nat) - ((x :: l).length : Nat) : Int)) = (2 * (cntGe l v : Nat) - (l.length : Nat) : Int) + 1 := by
        unfold cntGe
        rw [List.filter_cons_of_pos (by simpa using hx)]
        simp only [List.length_cons]
        omega
      rw [e, Rat.intCast_add, Rat.mul_add, show ((1 : Int) : Rat) = 1 from rfl, Rat.mul_one]
      grind
    · rw [if_neg hx] at ha
      have e : ((2 * (cntGe (x :: l) v : Nat) - ((x :: l).length : Nat) : Int)) = (2 * (cntGe l v : Nat) - (l.length : Nat) : Int) + (-1) := by
        unfold cntGe
        rw [List.filter_cons_of_neg (by simpa using hx)]
        simp only [List.length_cons]
        omega
      rw [e, Rat.intCast_add, Rat.mul_add, show ((-1 : Int) : Rat) = -1 from rfl]
      grind
theorem int_nonneg {z : Int} (h : 0 ≤ z) : (0 : Rat) ≤ (z : Rat) := by
  have : ((0 : Int) : Rat) ≤ (z : Rat) := Rat.intCast_le_intCast.2 h
  exact this
theorem dsum_least {l : List Rat} {v : Rat} (h1 : l.length ≤ 2 * cntLe l v) (h2 : l.length ≤ 2 * cntGe l v) (w : Rat) : dsum l v ≤ dsum l w := by
  rcases Rat.le_total (a := v) (b := w) with h | h
  · have := dsum_up h l
    have h3 := Rat.mul_nonneg (show (0 : Rat) ≤ w - v by grind) (int_nonneg (show (0 : Int) ≤ 2 * (cntLe l v : Nat) - (l.length : Nat) by omega))
    grind
  · have := dsum_down h l
    have h3 := Rat.mul_nonneg (show (0 : Rat) ≤ v - w by grind) (int_nonneg (show (0 : Int) ≤ 2 * (cntGe l v : Nat) - (l.length : Nat) by omega))
    grind
theorem med_le (l : List Rat) (hn : 0 < l.length) : medLo l ≤ medHi l := by
  unfold medLo medHi
  exact asc_getD (srt_asc l) (by omega) (by rw [srt_len]; omega)
theorem med_split {l : List Rat} (hn : 0 < l.length) {v : Rat} (h1 : medLo l ≤ v) (h2 : v ≤ medHi l) : l.length ≤ 2 * cntLe l v ∧ l.length ≤ 2 * cntGe l v := by
  have hs := srt_asc l
  have hlen := srt_len l
  have a := (cntLe_iff hs (show (l.length + 1) / 2 - 1 < (srt l).length by omega) v).2 h1
  have b := (cntGe_iff hs (show l.length / 2 < (srt l).length by omega) v).2 h2
  rw [cntLe_perm (srt_perm l)] at a
  rw [cntGe_perm (srt_perm l)] at b
  omega
theorem dsum_med {l : List Rat} (hn : 0 < l.length) {v : Rat} (h1 : medLo l ≤ v) (h2 : v ≤ medHi l) (w : Rat) : dsum l v ≤ dsum l w := by
  obtain ⟨a, b⟩ := med_split hn h1 h2
  exact dsum_least a b w
theorem between {a b c : Rat} (h : a ≤ b) (h0 : 0 ≤ c) (h1 : c ≤ 1) : a ≤ c * a + (1 - c) * b ∧ c * a + (1 - c) * b ≤ b := by
  have e1 := Rat.mul_nonneg (show 0 ≤ 1 - c by grind) (show 0 ≤ b - a by grind)
  have e2 := Rat.mul_nonneg h0 (show 0 ≤ b - a by grind)
  constructor <;> grind
end Go.Vw

set_option linter.unusedVariables false
set_option linter.unusedSimpArgs false
set_option maxHeartbeats 8000000
namespace Go.Proofs.YtfnckkfbnnbmkaaGreat
open Go.Vw
attribute [local irreducible] awp awpL awpR

theorem made_ModW (k n : Int) (hk : -9223372036854775808 ≤ k) (hk' : k < 9223372036854775808) (h : 0 < n) (h' : n < 1000000) : Ret Tryz.prog 24 [.int .i64 k, .int .i64 n] (· = .int .i64 (k % n)) := by
  obtain ⟨t1, t2, t3⟩ := tmodFact k n h
  rw [t3]
  refine ret_of_awp tab Tryz.func24 rfl rfl (Nat.le_of_ble_eq_true rfl) (fun w0 F0 => ?_)
  repeat' (first
    | (show awpL _ _ _ _ _; first | refine goL ?_ | (refine gdLG ?_ ?_ <;> intro _ <;> try (exfalso; omega)))
    | (show awp _ _ _ _; first | refine goA ?_ | (refine cdG ?_ ?_ <;> intro _ <;> try (exfalso; omega)))
    | (show andThen _ _ _ _; refine goN ?_)
    | (show inBlock _ _ _ _; refine goB ?_)
    | (show retPost _ _ _ _ _; refine finG ?_))
  · rename_i hc; rw [if_pos hc]
  · rename_i hc; rw [if_neg hc]
/-- A small number that is made of a number; one between 0 and 1. -/
def numQ (v : Int) : Rat := Rat.divInt (v % 61 - 30) (1 + v.tdiv 61 % 4)
def levQ (v : Int) : Rat := Rat.divInt (1 + v % 11) 12
theorem ok_numQ (v : Int) : okQ 10 (numQ v) := ok_fracW (by omega) (by omega) (by omega)
theorem ok_levQ (v : Int) : okQ 10 (levQ v) := ok_fracW (by decide) (by omega) (by decide)
theorem levQ_bd (v : Int) : 0 < levQ v ∧ levQ v < 1 := by
  have h : 1 + v % 11 = 1 ∨ 1 + v % 11 = 2 ∨ 1 + v % 11 = 3 ∨ 1 + v % 11 = 4 ∨ 1 + v % 11 = 5 ∨ 1 + v % 11 = 6 ∨ 1 + v % 11 = 7 ∨ 1 + v % 11 = 8 ∨ 1 + v % 11 = 9 ∨ 1 + v % 11 = 10 ∨ 1 + v % 11 = 11 := by omega
  unfold levQ
  rcases h with h | h | h | h | h | h | h | h | h | h | h <;> rw [h] <;> decide +kernel
theorem made_Number (v : Int) (h1 : -9223372036854775808 ≤ v) (h2 : v < 9223372036854775808) : Ret Tryz.prog 23 [.int .i64 v] (· = qD (numQ v)) := by
  have hb : -9223372036854775808 ≤ v.tdiv 61 ∧ v.tdiv 61 < 9223372036854775808 := by
    rcases Int.le_total 0 v with h | h
    · rw [Int.tdiv_eq_ediv_of_nonneg h]; omega
    · obtain ⟨m, rfl⟩ : ∃ m : Int, v = -m := ⟨-v, by omega⟩
      rw [Int.neg_tdiv, Int.tdiv_eq_ediv_of_nonneg (show 0 ≤ m by omega)]; omega
  have m1 := made_ModW v 61 h1 h2 (by decide) (by decide)
  have m2 := made_ModW (v.tdiv 61) 4 hb.1 hb.2 (by decide) (by decide)
  have hw : IntKind.i64.wrap (v.tdiv 61) = v.tdiv 61 := Go.IntWalk.i64_in _ (by omega)
  have f := ref03_FractionQ (v % 61 - 30) (1 + v.tdiv 61 % 4) (by omega) (by omega) (by omega) (by omega)
  unfold numQ
  have r1 := Int.emod_nonneg v (show (61 : Int) ≠ 0 by decide)
  have r2 := Int.emod_lt_of_pos v (show (0 : Int) < 61 by decide)
  have r3 := Int.emod_nonneg (v.tdiv 61) (show (4 : Int) ≠ 0 by decide)
  have r4 := Int.emod_lt_of_pos (v.tdiv 61) (show (0 : Int) < 4 by decide)
  generalize v.tdiv 61 % 4 = z at *
  generalize v % 61 = y at *
  rw [← hw] at m2
  clear hw hb
  refine ret_of_awp tab Tryz.func23 rfl rfl (Nat.le_of_ble_eq_true rfl) (fun w0 F0 => ?_)
  repeat' (first
    | (show awpL _ _ _ _ _; first | refine goL ?_ | refine cl 24 tt rfl rfl rfl (hr := m1) (k := ?_) | refine cl 24 tt rfl rfl rfl (hr := m2) (k := ?_) | refine cl 30 tt rfl rfl rfl (hr := f) (k := ?_) | (refine gdLG ?_ ?_ <;> intro _ <;> try (exfalso; omega)))
    | (show awp _ _ _ _; first | refine goA ?_ | (refine cdG ?_ ?_ <;> intro _ <;> try (exfalso; omega)))
    | (show andThen _ _ _ _; refine goN ?_)
    | (show inBlock _ _ _ _; refine goB ?_)
    | (show retPost _ _ _ _ _; refine finG ?_))
  all_goals rfl
theorem made_Level (v : Int) (h1 : -9223372036854775808 ≤ v) (h2 : v < 9223372036854775808) : Ret Tryz.prog 15 [.int .i64 v] (· = qD (levQ v)) := by
  have m1 := made_ModW v 11 h1 h2 (by decide) (by decide)
  have f := ref03_FractionQ (1 + v % 11) 12 (by omega) (by omega) (by decide) (by decide)
  unfold levQ
  have r1 := Int.emod_nonneg v (show (11 : Int) ≠ 0 by decide)
  have r2 := Int.emod_lt_of_pos v (show (0 : Int) < 11 by decide)
  generalize v % 11 = y at *
  refine ret_of_awp tab Tryz.func15 rfl rfl (Nat.le_of_ble_eq_true rfl) (fun w0 F0 => ?_)
  repeat' (first
    | (show awpL _ _ _ _ _; first | refine goL ?_ | refine cl 24 tt rfl rfl rfl (hr := m1) (k := ?_) | refine cl 30 tt rfl rfl rfl (hr := f) (k := ?_) | (refine gdLG ?_ ?_ <;> intro _ <;> try (exfalso; omega)))
    | (show awp _ _ _ _; first | refine goA ?_ | (refine cdG ?_ ?_ <;> intro _ <;> try (exfalso; omega)))
    | (show andThen _ _ _ _; refine goN ?_)
    | (show inBlock _ _ _ _; refine goB ?_)
    | (show retPost _ _ _ _ _; refine finG ?_))
  all_goals rfl
theorem made_Numbers (l : List Int) (m : Nat) (hl : l.length ≤ 9223372036854775807) (hx : I64 l) (hm : m ≤ 1000) : Ret Tryz.prog 12 [i64s l, .int .i64 m] (· = qsD ((l.take m).map numQ)) := by
  refine ret_of_awp tab Tryz.func12 rfl rfl (Nat.le_of_ble_eq_true rfl) (fun w0 F0 => ?_)
  repeat' (first
    | (show awpL _ _ _ _ _; first | refine goL ?_ | (refine gdLG ?_ ?_ <;> intro _ <;> try (exfalso; omega)))
    | (show awp _ _ _ _; first | refine goA ?_ | (refine cdG ?_ ?_ <;> intro _ <;> try (exfalso; omega)))
    | (show andThen _ _ _ _; refine goN ?_)
    | (show inBlock _ _ _ _; refine goB ?_)
    | (show retPost _ _ _ _ _; refine finG ?_))
  refine awp_adopt 5 500 30 3 qC 0 rfl ?_
  refine awp_loop1 (fun (i : Nat) => ([(0, .d (i64s l)), (1, .d (.int .i64 m)), (5, .own 500 0 ((l.take i).map numQ).length 30 3), (6, .d (.int .i64 i))], [(500, .data 30 3 qC 0 ((l.take i).map numQ))])) (fun i => i ≤ l.length ∧ i ≤ m) (fun i => m - i) 0 ⟨by omega, by omega⟩ ⟨rfl, rfl, rfl, rfl, rfl⟩ ⟨rfl, trivial⟩ (fun i hi => ?_)
  obtain ⟨i1, i2⟩ := hi
  have hlen : ((l.take i).map numQ).length = i := by simp; omega
  by_cases h3 : i < l.length ∧ i < m
  · obtain ⟨h4, h5⟩ := h3
    have hg := hx.getD i
    have hn := made_Number (l.getD i 0) hg.1 hg.2
    have e : (l.take i).map numQ ++ [numQ (l.getD i 0)] = (l.take (i + 1)).map numQ := by
      rw [List.take_add_one, List.map_append, List.getElem?_eq_getElem h4, List.getD_eq_getElem?_getD, List.getElem?_eq_getElem h4]
      rfl
    repeat' (first
      | (show awpL _ _ _ _ _; first | refine goL ?_ | refine cl 23 tt rfl rfl rfl (hr := hn) (k := ?_) | (refine gdLG ?_ ?_ <;> intro _ <;> try (exfalso; omega)))
      | (show awp _ _ _ _; first | refine goA ?_ | (refine cdG ?_ ?_ <;> intro _ <;> try (exfalso; omega)))
      | (show andThen _ _ _ _; refine goN ?_)
      | (show inBlock _ _ _ _; refine goB ?_)
      | (show retPost _ _ _ _ _; refine finG ?_))
    exact ⟨i + 1, ⟨by omega, by omega⟩, by omega, ⟨rfl, rfl, by rw [← e]; rfl, iv (by omega), rfl⟩, by rw [← e]; rfl, trivial⟩
  · have e : l.take i = l.take m := by
      by_cases h4 : i < l.length
      · rw [show i = m by omega]
      · rw [List.take_of_length_le (by omega), List.take_of_length_le (by omega)]
    rw [e] at hlen ⊢
    repeat' (first
      | (show awpL _ _ _ _ _; first | refine goL ?_ | (refine gdLG ?_ ?_ <;> intro _ <;> try (exfalso; omega)))
      | (show awp _ _ _ _; first | refine goA ?_ | (refine cdG ?_ ?_ <;> intro _ <;> try (exfalso; omega)))
      | (show andThen _ _ _ _; refine goN ?_)
      | (show inBlock _ _ _ _; refine goB ?_)
      | (show retPost _ _ _ _ _; refine finG ?_))
    all_goals rfl
theorem sameQT (x : Rat) (h : okQ 100000000 x) : Ret Tryz.prog 21 [qD x, qD x] (· = .bool true) := by
  have := ref03_Same (rq x) (rq x) ⟨Nat.lt_trans (ok_rq h).lm (by decide), Nat.lt_trans (ok_rq h).ld (by decide)⟩ ⟨Nat.lt_trans (ok_rq h).lm (by decide), Nat.lt_trans (ok_rq h).ld (by decide)⟩
  rw [decide_eq_true rfl] at this
  exact this
theorem law16_awake : Ret Tryz.prog 13 [] (· = .bool true) := by
  have f4 := ref03_FromIntW 4 (by decide) (by decide)
  have f1 := ref03_FromIntW 1 (by decide) (by decide)
  have f9 := ref03_FromIntW 9 (by decide) (by decide)
  have f2 := ref03_FromIntW 2 (by decide) (by decide)
  have k4 : okQ 10 ((4 : Int) : Rat) := ok_intW (by decide)
  have k1 : okQ 10 ((1 : Int) : Rat) := ok_intW (by decide)
  have k9 : okQ 10 ((9 : Int) : Rat) := ok_intW (by decide)
  have k2 : okQ 10 ((2 : Int) : Rat) := ok_intW (by decide)
  have fr := ref03_FractionQ 3 2 (by decide) (by decide) (by decide) (by decide)
  have kf : okQ 10 (Rat.divInt 3 2) := ok_fracW (by decide) (by decide) (by decide)
  have hl : ∀ r ∈ [rq ((4 : Int) : Rat), rq ((1 : Int) : Rat), rq ((9 : Int) : Rat), rq ((2 : Int) : Rat)], RatOk r 100 := by
    intro r hr
    simp only [List.mem_cons, List.not_mem_nil, or_false] at hr
    rcases hr with h | h | h | h <;> rw [h]
    · exact ok_rq (k4.mono (by decide))
    · exact ok_rq (k1.mono (by decide))
    · exact ok_rq (k9.mono (by decide))
    · exact ok_rq (k2.mono (by decide))
  have hm := order_Median _ (by simp) (by simp) (fun r hr => (hl r hr).up (by decide))
  have hd := order_Deviation _ (by simp) (by simp) hl
  have hs := order_Sort _ (by simp) (fun r hr => (hl r hr).up (by decide))
  rw [List.map_cons, List.map_cons, List.map_cons, List.map_cons, List.map_nil, rv_rq, rv_rq, rv_rq, rv_rq] at hm hd hs
  have e1 : srt [((4 : Int) : Rat), ((1 : Int) : Rat), ((9 : Int) : Rat), ((2 : Int) : Rat)] = [((1 : Int) : Rat), ((2 : Int) : Rat), ((4 : Int) : Rat), ((9 : Int) : Rat)] := by
    rw [← insTo_srt _ (by simp)]
    decide +kernel
  have e2 : medLo [((4 : Int) : Rat), ((1 : Int) : Rat), ((9 : Int) : Rat), ((2 : Int) : Rat)] = ((2 : Int) : Rat) := by unfold medLo; rw [e1]; rfl
  have e3 : medHi [((4 : Int) : Rat), ((1 : Int) : Rat), ((9 : Int) : Rat), ((2 : Int) : Rat)] = ((4 : Int) : Rat) := by unfold medHi; rw [e1]; rfl
  have e4 : midQ [((4 : Int) : Rat), ((1 : Int) : Rat), ((9 : Int) : Rat), ((2 : Int) : Rat)] = ((3 : Int) : Rat) := by unfold midQ; rw [e2, e3]; decide +kernel
  have e5 : midQ (distQ [((4 : Int) : Rat), ((1 : Int) : Rat), ((9 : Int) : Rat), ((2 : Int) : Rat)] ((3 : Int) : Rat)) = Rat.divInt 3 2 := by
    have e6 : distQ [((4 : Int) : Rat), ((1 : Int) : Rat), ((9 : Int) : Rat), ((2 : Int) : Rat)] ((3 : Int) : Rat) = [((1 : Int) : Rat), ((2 : Int) : Rat), ((6 : Int) : Rat), ((1 : Int) : Rat)] := by decide +kernel
    have e7 : srt [((1 : Int) : Rat), ((2 : Int) : Rat), ((6 : Int) : Rat), ((1 : Int) : Rat)] = [((1 : Int) : Rat), ((1 : Int) : Rat), ((2 : Int) : Rat), ((6 : Int) : Rat)] := by
      rw [← insTo_srt _ (by simp)]
      decide +kernel
    rw [e6]
    unfold midQ medLo medHi
    rw [e7]
    decide +kernel
  rw [e4, e5] at hd
  rw [e2, e3] at hm
  rw [e1] at hs
  have s2 := sameQT _ (k2.mono (by decide))
  have s4 := sameQT _ (k4.mono (by decide))
  have sf := sameQT _ (kf.mono (by decide))
  clear e1 e2 e3 e4 e5 hl k4 k1 k9 k2 kf
  generalize ((4 : Int) : Rat) = q4 at *
  generalize ((1 : Int) : Rat) = q1 at *
  generalize ((9 : Int) : Rat) = q9 at *
  generalize ((2 : Int) : Rat) = q2 at *
  generalize Rat.divInt 3 2 = qf at *
  refine ret_of_awp tab Tryz.func13 rfl rfl (Nat.le_of_ble_eq_true rfl) (fun w0 F0 => ?_)
  repeat' (first
    | (show awpL _ _ _ _ _; first | refine goL ?_ | refine cl 19 tt rfl rfl rfl (hr := f4) (k := ?_) | refine cl 19 tt rfl rfl rfl (hr := f1) (k := ?_) | refine cl 19 tt rfl rfl rfl (hr := f9) (k := ?_) | refine cl 19 tt rfl rfl rfl (hr := f2) (k := ?_) | refine cl 14 tt rfl rfl rfl (hr := hm) (k := ?_) | refine cl 33 tt rfl rfl rfl (hr := hd) (k := ?_) | refine cl 21 tt rfl rfl rfl (hr := s2) (k := ?_) | refine cl 21 tt rfl rfl rfl (hr := s4) (k := ?_) | refine cl 30 tt rfl rfl rfl (hr := fr) (k := ?_) | refine cl 21 tt rfl rfl rfl (hr := sf) (k := ?_) | refine cl 47 tt rfl rfl rfl (hr := hs) (k := ?_) | (refine gdLG ?_ ?_ <;> intro _ <;> try (exfalso; omega)))
    | (show awp _ _ _ _; first | refine goA ?_ | refine rg 4 19 ?_ | (refine cdG ?_ ?_ <;> intro _ <;> try (exfalso; omega)))
    | (show andThen _ _ _ _; refine goN ?_)
    | (show inBlock _ _ _ _; refine goB ?_)
    | (show awpR _ _ _ _ _ _ _; first | refine goR ?_ | refine clR 19 tt rfl rfl rfl (hr := f4) (k := ?_) | refine clR 19 tt rfl rfl rfl (hr := f1) (k := ?_) | refine clR 19 tt rfl rfl rfl (hr := f9) (k := ?_) | refine clR 19 tt rfl rfl rfl (hr := f2) (k := ?_) | refine clR 14 tt rfl rfl rfl (hr := hm) (k := ?_) | refine clR 33 tt rfl rfl rfl (hr := hd) (k := ?_) | refine clR 21 tt rfl rfl rfl (hr := s2) (k := ?_) | refine clR 21 tt rfl rfl rfl (hr := s4) (k := ?_) | refine clR 30 tt rfl rfl rfl (hr := fr) (k := ?_) | refine clR 21 tt rfl rfl rfl (hr := sf) (k := ?_) | refine clR 47 tt rfl rfl rfl (hr := hs) (k := ?_) | (refine gdRG ?_ ?_ <;> intro _ <;> try (exfalso; omega)))
    | (show retPost _ _ _ _ _; refine finG ?_))
  rfl
theorem ref03_AbsQ (x : Rat) (h : okQ 100000 x) : Ret Tryz.prog 50 [qD x] (· = qD (absQ x)) := by
  have sg := ref03_SignQ x (h.mono (by decide))
  have n1 := ref03_Neg (rq x) (ok_rq (h.mono (by decide)))
  rw [rv_rq] at n1
  have n2 := ref03_TakeQ x (h.mono (by decide))
  have hs : x.num.sign < 0 ↔ x < 0 := by rw [← num_lt0, ← Int.not_le, ← Int.not_le, Int.sign_nonneg_iff]
  generalize x.num.sign = s at *
  unfold absQ
  by_cases c : x < 0
  · have hn := hs.2 c
    rw [if_pos c]
    clear hs
    refine ret_of_awp tab Tryz.func50 rfl rfl (Nat.le_of_ble_eq_true rfl) (fun w0 F0 => ?_)
    repeat' (first
      | (show awpL _ _ _ _ _; first | refine goL ?_ | refine cl 52 tt rfl rfl rfl (hr := sg) (k := ?_) | refine cl 60 tt rfl rfl rfl (hr := n1) (k := ?_) | (refine gdLG ?_ ?_ <;> intro _ <;> try (exfalso; omega)))
      | (show awp _ _ _ _; first | refine goA ?_ | (refine cdG ?_ ?_ <;> intro _ <;> try (exfalso; omega)))
      | (show andThen _ _ _ _; refine goN ?_)
      | (show inBlock _ _ _ _; refine goB ?_)
      | (show retPost _ _ _ _ _; refine finG ?_))
    rfl
  · have hn := mt hs.1 c
    rw [if_neg c]
    clear hs
    refine ret_of_awp tab Tryz.func50 rfl rfl (Nat.le_of_ble_eq_true rfl) (fun w0 F0 => ?_)
    repeat' (first
      | (show awpL _ _ _ _ _; first | refine goL ?_ | refine cl 52 tt rfl rfl rfl (hr := sg) (k := ?_) | refine cl 55 tt rfl rfl rfl (hr := n2) (k := ?_) | (refine gdLG ?_ ?_ <;> intro _ <;> try (exfalso; omega)))
      | (show awp _ _ _ _; first | refine goA ?_ | (refine cdG ?_ ?_ <;> intro _ <;> try (exfalso; omega)))
      | (show andThen _ _ _ _; refine goN ?_)
      | (show inBlock _ _ _ _; refine goB ?_)
      | (show retPost _ _ _ _ _; refine finG ?_))
    rfl
theorem dsum_take {l : List Rat} {v : Rat} {i : Nat} (h : i < l.length) : dsum (l.take (i + 1)) v = dsum (l.take i) v + absQ (l.getD i 0 - v) := by
  unfold dsum
  exact foldl_take _ _ l h
theorem dsum_ok {k : Nat} {l : List Rat} {v : Rat} (h : ∀ q ∈ l, okQ k q) (hv : okQ k v) : ∀ i, i ≤ l.length → okQ (2 + 2 * k * i) (dsum (l.take i) v)
  | 0, _ => by
    rw [List.take_zero]
    exact okQ_zero (by omega)
  | i + 1, hi => by
    rw [dsum_take (by omega)]
    have h1 := dsum_ok h hv i (by omega)
    have h2 := absQ_ok ((getD_ok h (show i < l.length by omega)).sub hv)
    refine (h1.add h2).mono ?_
    rw [Nat.mul_add]
    omega
theorem law16_distance (l : List Rat) (v : Rat) (hn : l.length ≤ 12) (hl : ∀ q ∈ l, okQ 100 q) (hv : okQ 100 v) : Ret Tryz.prog 20 [qsD l, qD v] (· = qD (dsum l v)) := by
  refine ret_of_awp tab Tryz.func20 rfl rfl (Nat.le_of_ble_eq_true rfl) (fun w0 F0 => ?_)
  repeat' (first
    | (show awpL _ _ _ _ _; first | refine goL ?_ | (refine gdLG ?_ ?_ <;> intro _ <;> try (exfalso; omega)))
    | (show awp _ _ _ _; first | refine goA ?_ | refine rg 5 8 ?_ | (refine cdG ?_ ?_ <;> intro _ <;> try (exfalso; omega)))
    | (show andThen _ _ _ _; refine goN ?_)
    | (show inBlock _ _ _ _; refine goB ?_)
    | (show awpR _ _ _ _ _ _ _; first | refine goR ?_ | (refine gdRG ?_ ?_ <;> intro _ <;> try (exfalso; omega)))
    | (show retPost _ _ _ _ _; refine finG ?_))
  refine awp_rebox 5 (rC (rq 0)) rfl rfl (by rw [rq_zero]; exact leL) ?_
  refine awp_loop1 (fun (i : Nat) => ([(0, .d (qsD l)), (3, .ptr 3 0), (4, .ptr 4 0), (5, .ptr 5 0), (6, .d (.int .i64 i))], [(3, .box 30 ((rC (rq v)).map V.d)), (4, .box 30 zR3), (5, .box 30 ((rC (rq (dsum (l.take i) v))).map V.d))])) (fun i => i ≤ l.length) (fun i => l.length - i) 0 (by omega) ⟨rfl, rfl, rfl, rfl, rfl, rfl⟩ ⟨rfl, rfl, rfl, trivial⟩ (fun i hi => ?_)
  by_cases h3 : i < l.length
  · have kd := dsum_ok hl hv i (by omega)
    have kx := getD_ok hl h3
    have e := dsum_take (v := v) h3
    have hs := ref03_SubQ (l.getD i 0) v (kx.mono (by decide)) (hv.mono (by decide))
    have ha := ref03_AbsQ _ ((kx.sub hv).mono (by decide))
    have hp := ref03_AddQ (dsum (l.take i) v) (absQ (l.getD i 0 - v)) (kd.mono (by have : 2 * 100 * i ≤ 2 * 100 * 12 := Nat.mul_le_mul_left _ (by omega); omega)) ((absQ_ok (kx.sub hv)).mono (by decide))
    rw [← e] at hp
    clear kd kx e
    generalize dsum (l.take i) v = d0 at *
    obtain ⟨d1, hd1⟩ : ∃ d1, dsum (l.take (i + 1)) v = d1 := ⟨_, rfl⟩
    rw [hd1] at hp
    repeat' (first
      | (show awpL _ _ _ _ _; first | refine goL ?_ | refine cl 18 tt rfl rfl rfl (hr := hs) (k := ?_) | refine cl 50 tt rfl rfl rfl (hr := ha) (k := ?_) | refine cl 16 tt rfl rfl rfl (hr := hp) (k := ?_) | (refine gdLG ?_ ?_ <;> intro _ <;> try (exfalso; omega)))
      | (show awp _ _ _ _; first | refine goA ?_ | refine rg 5 8 ?_ | (refine cdG ?_ ?_ <;> intro _ <;> try (exfalso; omega)))
      | (show andThen _ _ _ _; refine goN ?_)
      | (show inBlock _ _ _ _; refine goB ?_)
      | (show awpR _ _ _ _ _ _ _; first | refine goR ?_ | refine clR 18 tt rfl rfl rfl (hr := hs) (k := ?_) | refine clR 50 tt rfl rfl rfl (hr := ha) (k := ?_) | refine clR 16 tt rfl rfl rfl (hr := hp) (k := ?_) | (refine gdRG ?_ ?_ <;> intro _ <;> try (exfalso; omega)))
      | (show retPost _ _ _ _ _; refine finG ?_))
    exact ⟨i + 1, by omega, by omega, ⟨rfl, rfl, rfl, rfl, iv (by omega), rfl⟩, rfl, rfl, by rw [hd1]; rfl, trivial⟩
  · have e : l.take i = l := List.take_of_length_le (by omega)
    rw [e]
    generalize dsum l v = d at *
    repeat' (first
      | (show awpL _ _ _ _ _; first | refine goL ?_ | (refine gdLG ?_ ?_ <;> intro _ <;> try (exfalso; omega)))
      | (show awp _ _ _ _; first | refine goA ?_ | refine rg 5 8 ?_ | (refine cdG ?_ ?_ <;> intro _ <;> try (exfalso; omega)))
      | (show andThen _ _ _ _; refine goN ?_)
      | (show inBlock _ _ _ _; refine goB ?_)
      | (show awpR _ _ _ _ _ _ _; first | refine goR ?_ | (refine gdRG ?_ ?_ <;> intro _ <;> try (exfalso; omega)))
      | (show retPost _ _ _ _ _; refine finG ?_))
    all_goals rfl
theorem cntLe_take {l : List Rat} {v : Rat} {i : Nat} (h : i < l.length) : cntLe (l.take (i + 1)) v = cntLe (l.take i) v + (if l.getD i 0 ≤ v then 1 else 0) := by
  unfold cntLe
  rw [List.take_add_one, List.filter_append, List.length_append]
  simp only [List.getElem?_eq_getElem h, Option.toList_some, List.getD_eq_getElem?_getD, Option.getD_some]
  by_cases hk : l[i] ≤ v <;> simp [List.filter_cons, hk]
theorem cntGe_take {l : List Rat} {v : Rat} {i : Nat} (h : i < l.length) : cntGe (l.take (i + 1)) v = cntGe (l.take i) v + (if v ≤ l.getD i 0 then 1 else 0) := by
  unfold cntGe
  rw [List.take_add_one, List.filter_append, List.length_append]
  simp only [List.getElem?_eq_getElem h, Option.toList_some, List.getD_eq_getElem?_getD, Option.getD_some]
  by_cases hk : v ≤ l[i] <;> simp [List.filter_cons, hk]
theorem law16_splits (l : List Rat) (p v : Rat) (hn : l.length ≤ 12) (hl : ∀ q ∈ l, okQ 100 q) (hp : okQ 100 p) (hv : okQ 3000 v) : Ret Tryz.prog 31 [qsD l, qD p, qD v] (· = .bool (splitsQ l p v)) := by
  refine ret_of_awp tab Tryz.func31 rfl rfl (Nat.le_of_ble_eq_true rfl) (fun w0 F0 => ?_)
  repeat' (first
    | (show awpL _ _ _ _ _; first | refine goL ?_ | (refine gdLG ?_ ?_ <;> intro _ <;> try (exfalso; omega)))
    | (show awp _ _ _ _; first | refine goA ?_ | refine rg 5 5 ?_ | refine rg 8 5 ?_ | refine rg 12 14 ?_ | (refine cdG ?_ ?_ <;> intro _ <;> try (exfalso; omega)))
    | (show andThen _ _ _ _; refine goN ?_)
    | (show inBlock _ _ _ _; refine goB ?_)
    | (show awpR _ _ _ _ _ _ _; first | refine goR ?_ | (refine gdRG ?_ ?_ <;> intro _ <;> try (exfalso; omega)))
    | (show retPost _ _ _ _ _; refine finG ?_))
  refine awp_loop1 (fun (i : Nat) => ([(0, .d (qsD l)), (4, .ptr 4 0), (5, .ptr 5 0), (7, .d (.int .i64 (cntLe (l.take i) v : Nat))), (8, .d (.int .i64 (cntGe (l.take i) v : Nat))), (9, .d (.int .i64 i))], [(4, .box 30 ((rC (rq p)).map V.d)), (5, .box 30 ((rC (rq v)).map V.d))])) (fun i => i ≤ l.length) (fun i => l.length - i) 0 (by omega) ⟨rfl, rfl, rfl, rfl, rfl, rfl, rfl⟩ ⟨rfl, rfl, trivial⟩ (fun i hi => ?_)
  have b1 : cntLe (l.take i) v ≤ (l.take i).length := List.length_filter_le ..
  have b2 : cntGe (l.take i) v ≤ (l.take i).length := List.length_filter_le ..
  rw [List.length_take] at b1 b2
  by_cases h3 : i < l.length
  · have kx := getD_ok hl h3
    have c1 := ref03_CompareQ (l.getD i 0) v (kx.mono (by decide)) (hv.mono (by decide))
    have t1 := cntLe_take (v := v) h3
    have t2 := cntGe_take (v := v) h3
    have n1 := cmpQ_pos (l.getD i 0) v
    have n2 := cmpQ_neg (l.getD i 0) v
    obtain ⟨u, hu⟩ : ∃ u, cmpQ (l.getD i 0) v = u := ⟨_, rfl⟩
    rw [hu] at c1 n1 n2
    have r := cmpQ_range (l.getD i 0) v
    rw [hu] at r
    have p1 : (l.getD i 0 ≤ v) ↔ u ≤ 0 := by rw [← Rat.not_lt, ← n1]; omega
    have p2 : (v ≤ l.getD i 0) ↔ 0 ≤ u := by rw [← Rat.not_lt, ← n2]; omega
    simp only [p1] at t1
    simp only [p2] at t2
    clear n1 n2 p1 p2 hu kx
    generalize cntLe (l.take i) v = x at *
    generalize cntGe (l.take i) v = y at *
    obtain ⟨x', hx'⟩ : ∃ x', cntLe (l.take (i + 1)) v = x' := ⟨_, rfl⟩
    obtain ⟨y', hy'⟩ : ∃ y', cntGe (l.take (i + 1)) v = y' := ⟨_, rfl⟩
    rw [hx'] at t1
    rw [hy'] at t2
    by_cases g1 : u ≤ 0
    · rw [if_pos g1] at t1
      by_cases g2 : 0 ≤ u
      · rw [if_pos g2] at t2
        repeat' (first
          | (show awpL _ _ _ _ _; first | refine goL ?_ | refine cl 64 tt rfl rfl rfl (hr := c1) (k := ?_) | (refine gdLG ?_ ?_ <;> intro _ <;> try (exfalso; omega)))
          | (show awp _ _ _ _; first | refine goA ?_ | refine rg 5 5 ?_ | refine rg 8 5 ?_ | refine rg 12 14 ?_ | (refine cdG ?_ ?_ <;> intro _ <;> try (exfalso; omega)))
          | (show andThen _ _ _ _; refine goN ?_)
          | (show inBlock _ _ _ _; refine goB ?_)
          | (show awpR _ _ _ _ _ _ _; first | refine goR ?_ | refine clR 64 tt rfl rfl rfl (hr := c1) (k := ?_) | (refine gdRG ?_ ?_ <;> intro _ <;> try (exfalso; omega)))
          | (show retPost _ _ _ _ _; refine finG ?_))
        exact ⟨i + 1, by omega, by omega, ⟨rfl, rfl, rfl, iv (by omega), iv (by omega), iv (by omega), rfl⟩, rfl, rfl, trivial⟩
      · rw [if_neg g2] at t2
        repeat' (first
          | (show awpL _ _ _ _ _; first | refine goL ?_ | refine cl 64 tt rfl rfl rfl (hr := c1) (k := ?_) | (refine gdLG ?_ ?_ <;> intro _ <;> try (exfalso; omega)))
          | (show awp _ _ _ _; first | refine goA ?_ | refine rg 5 5 ?_ | refine rg 8 5 ?_ | refine rg 12 14 ?_ | (refine cdG ?_ ?_ <;> intro _ <;> try (exfalso; omega)))
          | (show andThen _ _ _ _; refine goN ?_)
          | (show inBlock _ _ _ _; refine goB ?_)
          | (show awpR _ _ _ _ _ _ _; first | refine goR ?_ | refine clR 64 tt rfl rfl rfl (hr := c1) (k := ?_) | (refine gdRG ?_ ?_ <;> intro _ <;> try (exfalso; omega)))
          | (show retPost _ _ _ _ _; refine finG ?_))
        exact ⟨i + 1, by omega, by omega, ⟨rfl, rfl, rfl, iv (by omega), iv (by omega), iv (by omega), rfl⟩, rfl, rfl, trivial⟩
    · rw [if_neg g1] at t1
      rw [if_pos (by omega)] at t2
      repeat' (first
        | (show awpL _ _ _ _ _; first | refine goL ?_ | refine cl 64 tt rfl rfl rfl (hr := c1) (k := ?_) | (refine gdLG ?_ ?_ <;> intro _ <;> try (exfalso; omega)))
        | (show awp _ _ _ _; first | refine goA ?_ | refine rg 5 5 ?_ | refine rg 8 5 ?_ | refine rg 12 14 ?_ | (refine cdG ?_ ?_ <;> intro _ <;> try (exfalso; omega)))
        | (show andThen _ _ _ _; refine goN ?_)
        | (show inBlock _ _ _ _; refine goB ?_)
        | (show awpR _ _ _ _ _ _ _; first | refine goR ?_ | refine clR 64 tt rfl rfl rfl (hr := c1) (k := ?_) | (refine gdRG ?_ ?_ <;> intro _ <;> try (exfalso; omega)))
        | (show retPost _ _ _ _ _; refine finG ?_))
      exact ⟨i + 1, by omega, by omega, ⟨rfl, rfl, rfl, iv (by omega), iv (by omega), iv (by omega), rfl⟩, rfl, rfl, trivial⟩
  · have e : l.take i = l := List.take_of_length_le (by omega)
    rw [e] at b1 b2 ⊢
    unfold splitsQ
    generalize cntLe l v = x at *
    generalize cntGe l v = y at *
    have kn : okQ 10 ((l.length : Int) : Rat) := ok_intW (by omega)
    have kx : okQ 10 ((x : Int) : Rat) := ok_intW (by omega)
    have ky : okQ 10 ((y : Int) : Rat) := ok_intW (by omega)
    have fn := ref03_FromIntW (l.length : Int) (by omega) (by omega)
    have fx := ref03_FromIntW (x : Int) (by omega) (by omega)
    have fy := ref03_FromIntW (y : Int) (by omega) (by omega)
    have f1 := ref03_FromIntW 1 (by decide) (by decide)
    rw [show ((1 : Int) : Rat) = 1 from rfl] at f1
    have m1 := ref03_MulQ p ((l.length : Int) : Rat) (hp.mono (by decide)) (kn.mono (by decide))
    have l1 := ref03_LessQ ((x : Int) : Rat) (p * ((l.length : Int) : Rat)) (kx.mono (by decide)) ((hp.mul kn).mono (by decide))
    have s1 := ref03_SubQ 1 p (okQ_one.mono (by decide)) (hp.mono (by decide))
    have k1p := okQ_one.sub hp
    have m2 := ref03_MulQ (1 - p) ((l.length : Int) : Rat) (k1p.mono (by decide)) (kn.mono (by decide))
    have l2 := ref03_LessQ ((y : Int) : Rat) ((1 - p) * ((l.length : Int) : Rat)) (ky.mono (by decide)) ((k1p.mul kn).mono (by decide))
    clear kn kx ky k1p b1 b2
    generalize decide (((x : Int) : Rat) < p * ((l.length : Int) : Rat)) = z1 at *
    generalize decide (((y : Int) : Rat) < (1 - p) * ((l.length : Int) : Rat)) = z2 at *
    generalize (1 - p) * ((l.length : Int) : Rat) = w2 at *
    generalize 1 - p = w3 at *
    generalize p * ((l.length : Int) : Rat) = w1 at *
    generalize ((l.length : Int) : Rat) = nq at *
    generalize ((x : Int) : Rat) = xq at *
    generalize ((y : Int) : Rat) = yq at *
    generalize (1 : Rat) = one at *
    cases z1 <;> cases z2
    all_goals
      repeat' (first
        | (show awpL _ _ _ _ _; first | refine goL ?_ | refine cl 19 tt rfl rfl rfl (hr := fn) (k := ?_) | refine cl 19 tt rfl rfl rfl (hr := fx) (k := ?_) | refine cl 17 tt rfl rfl rfl (hr := m1) (k := ?_) | refine cl 22 tt rfl rfl rfl (hr := l1) (k := ?_) | refine cl 19 tt rfl rfl rfl (hr := fy) (k := ?_) | refine cl 19 tt rfl rfl rfl (hr := f1) (k := ?_) | refine cl 18 tt rfl rfl rfl (hr := s1) (k := ?_) | refine cl 17 tt rfl rfl rfl (hr := m2) (k := ?_) | refine cl 22 tt rfl rfl rfl (hr := l2) (k := ?_) | (refine gdLG ?_ ?_ <;> intro _ <;> try (exfalso; omega)))
        | (show awp _ _ _ _; first | refine goA ?_ | refine rg 5 5 ?_ | refine rg 8 5 ?_ | refine rg 12 14 ?_ | (refine cdG ?_ ?_ <;> intro _ <;> try (exfalso; omega)))
        | (show andThen _ _ _ _; refine goN ?_)
        | (show inBlock _ _ _ _; refine goB ?_)
        | (show awpR _ _ _ _ _ _ _; first | refine goR ?_ | refine clR 19 tt rfl rfl rfl (hr := fn) (k := ?_) | refine clR 19 tt rfl rfl rfl (hr := fx) (k := ?_) | refine clR 17 tt rfl rfl rfl (hr := m1) (k := ?_) | refine clR 22 tt rfl rfl rfl (hr := l1) (k := ?_) | refine clR 19 tt rfl rfl rfl (hr := fy) (k := ?_) | refine clR 19 tt rfl rfl rfl (hr := f1) (k := ?_) | refine clR 18 tt rfl rfl rfl (hr := s1) (k := ?_) | refine clR 17 tt rfl rfl rfl (hr := m2) (k := ?_) | refine clR 22 tt rfl rfl rfl (hr := l2) (k := ?_) | (refine gdRG ?_ ?_ <;> intro _ <;> try (exfalso; omega)))
        | (show retPost _ _ _ _ _; refine finG ?_))
      rfl
end Go.Proofs.YtfnckkfbnnbmkaaGreat
