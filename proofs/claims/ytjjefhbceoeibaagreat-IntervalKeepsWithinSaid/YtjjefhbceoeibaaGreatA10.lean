/-
  Contracts of functions of the program, and the layer that they are walked with: N13 ItvC ItvD VZ N14 N15. Conditions: as each says.
-/
import Derived.Test.YtjjefhbceoeibaaGreatA09
set_option linter.unusedVariables false
set_option linter.unusedSimpArgs false
namespace Go.Proofs.YtjjefhbceoeibaaGreat
open Go.Vw
attribute [local irreducible] awp awpL awpR

theorem ref03_FromIntQ (v : Int) (h1 : -9223372036854775808 ≤ v) (h2 : v < 9223372036854775808) : Ret Tryz.prog 26 [.int .i64 v] (· = qD (v : Rat)) := by
  have := ref03_FromInt v h1 h2
  rw [← rq_int] at this
  exact this
theorem ref04_Valid (a b : R3) (ha : RatOk a 20000) (hb : RatOk b 20000) : Ret Tryz.prog 11 [iD a b] (· = .bool (validR a && validR b && decide (rv a ≤ rv b))) := by
  have h1 := ref03_Valid a (ha.up (by decide))
  have h2 := ref03_Valid b (hb.up (by decide))
  have hl := ref03_Less b a (hb.up (by decide)) (ha.up (by decide))
  rw [show decide (rv a ≤ rv b) = !decide (rv b < rv a) by rw [← decide_not]; exact decide_eq_decide.2 Rat.not_lt.symm]
  generalize decide (rv b < rv a) = z at *
  generalize validR a = x at *
  generalize validR b = y at *
  cases x <;> cases y <;> cases z
  all_goals
    refine ret_of_awp tab Tryz.func11 rfl rfl (Nat.le_of_ble_eq_true rfl) (fun w0 F0 => ?_)
    repeat' (first
      | (show awpL _ _ _ _ _; first | refine goL ?_ | refine cl 55 tt rfl rfl rfl (hr := h1) (k := ?_) | refine cl 55 tt rfl rfl rfl (hr := h2) (k := ?_) | refine cl 27 tt rfl rfl rfl (hr := hl) (k := ?_) | (refine gdLD rfl rfl (fun _ => ?_) (fun _ => ?_) <;> try (exfalso; omega)) | (refine gdLN rfl rfl (fun _ => ?_) (fun _ => ?_) <;> try (exfalso; omega)) | refine gdL rfl rfl (fun _ => ?_) (fun _ => ?_))
      | (show awp _ _ _ _; first | refine goA ?_ | (refine awp_condD rfl (fun _ => ?_) (fun _ => ?_) <;> try (exfalso; omega)) | (refine awp_condN rfl (fun _ => ?_) (fun _ => ?_) <;> try (exfalso; omega)) | refine awp_cond rfl (fun _ => ?_) (fun _ => ?_))
      | (show andThen _ _ _ _; first | refine goN ?_)
      | (show inBlock _ _ _ _; first | refine goB ?_)
      | (show awpR _ _ _ _ _ _; first | refine goR ?_ | refine clR 55 tt rfl rfl rfl (hr := h1) (k := ?_) | refine clR 55 tt rfl rfl rfl (hr := h2) (k := ?_) | refine clR 27 tt rfl rfl rfl (hr := hl) (k := ?_) | (refine gdRD rfl rfl (fun _ => ?_) (fun _ => ?_) <;> try (exfalso; omega)) | (refine gdRN rfl rfl (fun _ => ?_) (fun _ => ?_) <;> try (exfalso; omega)) | refine gdR rfl rfl (fun _ => ?_) (fun _ => ?_))
      | (show retPost _ _ _ _ _; first | refine finF true rfl rfl sc ?_ | refine finF false rfl rfl sc ?_ | refine finC false rfl rfl sc sc ?_ | refine finN rfl rfl sc ?_ | refine finL true rfl rfl sc rfl (LeR.cons rfl leL LeR.nil) ?_ | refine finE true rfl rfl sc ?_ | refine finE false rfl rfl sc ?_))
    rfl
theorem okR_of {q : Rat} {k : Nat} (h : okQ k q) (hk : k ≤ 100000000000) : okR 100000000000 (rq q) := ⟨Nat.lt_of_lt_of_le (ok_rq h).lm hk, Nat.lt_of_lt_of_le (ok_rq h).ld hk⟩
theorem ref04_Same (a b c d : R3) (ha : okR 100000000000 a) (hb : okR 100000000000 b) (hc : okR 100000000000 c) (hd : okR 100000000000 d) : Ret Tryz.prog 35 [iD a b, iD c d] (· = .bool (decide (a = c) && decide (b = d))) := by
  have h1 := ref03_Same a c ha hc
  have h2 := ref03_Same b d hb hd
  generalize decide (a = c) = x at *
  generalize decide (b = d) = y at *
  cases x <;> cases y
  all_goals
    refine ret_of_awp tab Tryz.func35 rfl rfl (Nat.le_of_ble_eq_true rfl) (fun w0 F0 => ?_)
    repeat' (first
      | (show awpL _ _ _ _ _; first | refine goL ?_ | refine cl 50 tt rfl rfl rfl (hr := h1) (k := ?_) | refine cl 50 tt rfl rfl rfl (hr := h2) (k := ?_) | (refine gdLD rfl rfl (fun _ => ?_) (fun _ => ?_) <;> try (exfalso; omega)) | (refine gdLN rfl rfl (fun _ => ?_) (fun _ => ?_) <;> try (exfalso; omega)) | refine gdL rfl rfl (fun _ => ?_) (fun _ => ?_))
      | (show awp _ _ _ _; first | refine goA ?_ | (refine awp_condD rfl (fun _ => ?_) (fun _ => ?_) <;> try (exfalso; omega)) | (refine awp_condN rfl (fun _ => ?_) (fun _ => ?_) <;> try (exfalso; omega)) | refine awp_cond rfl (fun _ => ?_) (fun _ => ?_))
      | (show andThen _ _ _ _; first | refine goN ?_)
      | (show inBlock _ _ _ _; first | refine goB ?_)
      | (show awpR _ _ _ _ _ _; first | refine goR ?_ | refine clR 50 tt rfl rfl rfl (hr := h1) (k := ?_) | refine clR 50 tt rfl rfl rfl (hr := h2) (k := ?_) | (refine gdRD rfl rfl (fun _ => ?_) (fun _ => ?_) <;> try (exfalso; omega)) | (refine gdRN rfl rfl (fun _ => ?_) (fun _ => ?_) <;> try (exfalso; omega)) | refine gdR rfl rfl (fun _ => ?_) (fun _ => ?_))
      | (show retPost _ _ _ _ _; first | refine finF true rfl rfl sc ?_ | refine finF false rfl rfl sc ?_ | refine finC false rfl rfl sc sc ?_ | refine finN rfl rfl sc ?_ | refine finL true rfl rfl sc rfl (LeR.cons rfl leL LeR.nil) ?_ | refine finE true rfl rfl sc ?_ | refine finE false rfl rfl sc ?_))
    rfl
theorem ref04_SameI (i j : I2) (hi : okI 1000000 i) (hj : okI 1000000 j) : Ret Tryz.prog 35 [iQ i, iQ j] (· = .bool (decide (i = j))) := by
  have := ref04_Same (rq i.1) (rq i.2) (rq j.1) (rq j.2) (okR_of hi.1 (by decide)) (okR_of hi.2 (by decide)) (okR_of hj.1 (by decide)) (okR_of hj.2 (by decide))
  have e : (decide (rq i.1 = rq j.1) && decide (rq i.2 = rq j.2)) = decide (i = j) := by
    rw [← Bool.decide_and]
    refine decide_eq_decide.2 ⟨fun h => Prod.ext (rq_inj h.1) (rq_inj h.2), fun h => by rw [h]; exact ⟨rfl, rfl⟩⟩
  rw [e] at this
  exact this
theorem ref04_Make (a b : R3) (ha : RatOk a 20000) (hb : RatOk b 20000) : Ret Tryz.prog 48 [rD a, rD b] (· = if rv b < rv a then .tup [iD r0 r0, .int .i64 1] else .tup [iQ (rv a, rv b), .int .i64 0]) := by
  have h1 := ref03_Take a (ha.up (by decide))
  have h2 := ref03_Take b (hb.up (by decide))
  have hl := ref03_Less b a (hb.up (by decide)) (ha.up (by decide))
  by_cases h : rv b < rv a
  · rw [decide_eq_true h] at hl
    rw [if_pos h]
    refine ret_of_awp tab Tryz.func48 rfl rfl (Nat.le_of_ble_eq_true rfl) (fun w0 F0 => ?_)
    repeat' (first
      | (show awpL _ _ _ _ _; first | refine goL ?_ | refine cl 27 tt rfl rfl rfl (hr := hl) (k := ?_) | (refine gdLD rfl rfl (fun _ => ?_) (fun _ => ?_) <;> try (exfalso; omega)) | (refine gdLN rfl rfl (fun _ => ?_) (fun _ => ?_) <;> try (exfalso; omega)) | refine gdL rfl rfl (fun _ => ?_) (fun _ => ?_))
      | (show awp _ _ _ _; first | refine goA ?_ | refine awp_reg 3 3 mixed (by kernel_rfl) (by kernel_rfl) ?_ | (refine awp_condD rfl (fun _ => ?_) (fun _ => ?_) <;> try (exfalso; omega)) | (refine awp_condN rfl (fun _ => ?_) (fun _ => ?_) <;> try (exfalso; omega)) | refine awp_cond rfl (fun _ => ?_) (fun _ => ?_))
      | (show andThen _ _ _ _; first | refine goN ?_)
      | (show inBlock _ _ _ _; first | refine goB ?_)
      | (show awpR _ _ _ _ _ _; first | refine goR ?_ | refine clR 27 tt rfl rfl rfl (hr := hl) (k := ?_) | (refine gdRD rfl rfl (fun _ => ?_) (fun _ => ?_) <;> try (exfalso; omega)) | (refine gdRN rfl rfl (fun _ => ?_) (fun _ => ?_) <;> try (exfalso; omega)) | refine gdR rfl rfl (fun _ => ?_) (fun _ => ?_))
      | (show retPost _ _ _ _ _; first | refine finF true rfl rfl sc ?_ | refine finF false rfl rfl sc ?_ | refine finC false rfl rfl sc sc ?_ | refine finN rfl rfl sc ?_ | refine finL true rfl rfl sc rfl (LeR.cons rfl leL LeR.nil) ?_ | refine finT true rfl rfl sc ?_ | refine finT false rfl rfl sc ?_ | refine finE true rfl rfl sc ?_ | refine finE false rfl rfl sc ?_))
    exact leT
  · rw [decide_eq_false h] at hl
    rw [if_neg h]
    refine ret_of_awp tab Tryz.func48 rfl rfl (Nat.le_of_ble_eq_true rfl) (fun w0 F0 => ?_)
    repeat' (first
      | (show awpL _ _ _ _ _; first | refine goL ?_ | refine cl 27 tt rfl rfl rfl (hr := hl) (k := ?_) | refine cl 60 tt rfl rfl rfl (hr := h1) (k := ?_) | refine cl 60 tt rfl rfl rfl (hr := h2) (k := ?_) | (refine gdLD rfl rfl (fun _ => ?_) (fun _ => ?_) <;> try (exfalso; omega)) | (refine gdLN rfl rfl (fun _ => ?_) (fun _ => ?_) <;> try (exfalso; omega)) | refine gdL rfl rfl (fun _ => ?_) (fun _ => ?_))
      | (show awp _ _ _ _; first | refine goA ?_ | refine awp_reg 3 3 mixed (by kernel_rfl) (by kernel_rfl) ?_ | (refine awp_condD rfl (fun _ => ?_) (fun _ => ?_) <;> try (exfalso; omega)) | (refine awp_condN rfl (fun _ => ?_) (fun _ => ?_) <;> try (exfalso; omega)) | refine awp_cond rfl (fun _ => ?_) (fun _ => ?_))
      | (show andThen _ _ _ _; first | refine goN ?_)
      | (show inBlock _ _ _ _; first | refine goB ?_)
      | (show awpR _ _ _ _ _ _; first | refine goR ?_ | refine clR 27 tt rfl rfl rfl (hr := hl) (k := ?_) | refine clR 60 tt rfl rfl rfl (hr := h1) (k := ?_) | refine clR 60 tt rfl rfl rfl (hr := h2) (k := ?_) | (refine gdRD rfl rfl (fun _ => ?_) (fun _ => ?_) <;> try (exfalso; omega)) | (refine gdRN rfl rfl (fun _ => ?_) (fun _ => ?_) <;> try (exfalso; omega)) | refine gdR rfl rfl (fun _ => ?_) (fun _ => ?_))
      | (show retPost _ _ _ _ _; first | refine finF true rfl rfl sc ?_ | refine finF false rfl rfl sc ?_ | refine finC false rfl rfl sc sc ?_ | refine finN rfl rfl sc ?_ | refine finL true rfl rfl sc rfl (LeR.cons rfl leL LeR.nil) ?_ | refine finE true rfl rfl sc ?_ | refine finE false rfl rfl sc ?_))
    rfl
theorem ref04_ContainsI (i : I2) (hle : i.1 ≤ i.2) (hi : okI 20000 i) (v : R3) (hv : RatOk v 50000) : Ret Tryz.prog 18 [iQ i, rD v] (· = .bool (containsI i (rv v))) := by
  have := ref04_Contains (rq i.1) (rq i.2) v (ok_rq hi.1) (ok_rq hi.2) hv
  rw [rv_rq, rv_rq, takeI_of hle] at this
  exact this
theorem ref04_Within (a b c d : R3) (ha : RatOk a 20000) (hb : RatOk b 20000) (hc : RatOk c 20000) (hd : RatOk d 20000) : Ret Tryz.prog 28 [iD a b, iD c d] (· = .bool (withinI (takeI (rv a) (rv b)) (takeI (rv c) (rv d)))) := by
  have t1 := ref04_Take a b ha hb
  have o1 := takeI_ok (k := 20000) (okQ_rv ha (by decide)) (okQ_rv hb (by decide)) (by decide)
  rw [← withinI_eq (takeI_le _ _)]
  generalize takeI (rv a) (rv b) = i at *
  have c1 := ref04_Contains c d (rq i.1) hc hd (ok_rq (o1.1.mono (by decide)))
  have c2 := ref04_Contains c d (rq i.2) hc hd (ok_rq (o1.2.mono (by decide)))
  rw [rv_rq] at c1 c2
  generalize containsI (takeI (rv c) (rv d)) i.1 = x at *
  generalize containsI (takeI (rv c) (rv d)) i.2 = y at *
  cases x <;> cases y
  all_goals
    refine ret_of_awp tab Tryz.func28 rfl rfl (Nat.le_of_ble_eq_true rfl) (fun w0 F0 => ?_)
    repeat' (first
      | (show awpL _ _ _ _ _; first | refine goL ?_ | refine cl 65 tt rfl rfl rfl (hr := t1) (k := ?_) | refine cl 18 tt rfl rfl rfl (hr := c1) (k := ?_) | refine cl 18 tt rfl rfl rfl (hr := c2) (k := ?_) | (refine gdLD rfl rfl (fun _ => ?_) (fun _ => ?_) <;> try (exfalso; omega)) | (refine gdLN rfl rfl (fun _ => ?_) (fun _ => ?_) <;> try (exfalso; omega)) | refine gdL rfl rfl (fun _ => ?_) (fun _ => ?_))
      | (show awp _ _ _ _; first | refine goA ?_ | (refine awp_condD rfl (fun _ => ?_) (fun _ => ?_) <;> try (exfalso; omega)) | (refine awp_condN rfl (fun _ => ?_) (fun _ => ?_) <;> try (exfalso; omega)) | refine awp_cond rfl (fun _ => ?_) (fun _ => ?_))
      | (show andThen _ _ _ _; first | refine goN ?_)
      | (show inBlock _ _ _ _; first | refine goB ?_)
      | (show awpR _ _ _ _ _ _; first | refine goR ?_ | refine clR 65 tt rfl rfl rfl (hr := t1) (k := ?_) | refine clR 18 tt rfl rfl rfl (hr := c1) (k := ?_) | refine clR 18 tt rfl rfl rfl (hr := c2) (k := ?_) | (refine gdRD rfl rfl (fun _ => ?_) (fun _ => ?_) <;> try (exfalso; omega)) | (refine gdRN rfl rfl (fun _ => ?_) (fun _ => ?_) <;> try (exfalso; omega)) | refine gdR rfl rfl (fun _ => ?_) (fun _ => ?_))
      | (show retPost _ _ _ _ _; first | refine finF true rfl rfl sc ?_ | refine finF false rfl rfl sc ?_ | refine finC false rfl rfl sc sc ?_ | refine finN rfl rfl sc ?_ | refine finL true rfl rfl sc rfl (LeR.cons rfl leL LeR.nil) ?_ | refine finE true rfl rfl sc ?_ | refine finE false rfl rfl sc ?_))
    rfl
theorem ref04_hull (x : Rat) (l : List Rat) (hl : l.length < 1000000) (h : ∀ q ∈ x :: l, okQ 90000 q) : Ret Tryz.prog 77 [qsD (x :: l)] (· = iQ (hullL x l)) := by
  have hx : okQ 90000 x := h x (List.mem_cons_self ..)
  have h1 := ref03_TakeQ x (hx.mono (by decide))
  have hxl : (x :: l).length = l.length + 1 := rfl
  refine ret_of_awp tab Tryz.func77 rfl rfl (Nat.le_of_ble_eq_true rfl) (fun w0 F0 => ?_)
  repeat' (first
    | (show awpL _ _ _ _ _; first | refine goL ?_ | refine cl 60 tt rfl rfl rfl (hr := h1) (k := ?_) | (refine gdLD rfl rfl (fun _ => ?_) (fun _ => ?_) <;> try (exfalso; omega)) | (refine gdLN rfl rfl (fun _ => ?_) (fun _ => ?_) <;> try (exfalso; omega)) | refine gdL rfl rfl (fun _ => ?_) (fun _ => ?_))
    | (show awp _ _ _ _; first | refine goA ?_ | refine awp_regK 1 10 [3] mixed (by kernel_rfl) (by kernel_rfl) (by kernel_rfl) ?_ | refine awp_reg 5 13 mixed (by kernel_rfl) (by kernel_rfl) ?_ | (refine awp_condD rfl (fun _ => ?_) (fun _ => ?_) <;> try (exfalso; omega)) | (refine awp_condN rfl (fun _ => ?_) (fun _ => ?_) <;> try (exfalso; omega)) | refine awp_cond rfl (fun _ => ?_) (fun _ => ?_))
    | (show andThen _ _ _ _; first | refine goN ?_)
    | (show inBlock _ _ _ _; first | refine goB ?_)
    | (show awpR _ _ _ _ _ _; first | refine goR ?_ | refine clR 60 tt rfl rfl rfl (hr := h1) (k := ?_) | (refine gdRD rfl rfl (fun _ => ?_) (fun _ => ?_) <;> try (exfalso; omega)) | (refine gdRN rfl rfl (fun _ => ?_) (fun _ => ?_) <;> try (exfalso; omega)) | refine gdR rfl rfl (fun _ => ?_) (fun _ => ?_))
    | (show retPost _ _ _ _ _; first | refine finF true rfl rfl sc ?_ | refine finF false rfl rfl sc ?_ | refine finC false rfl rfl sc sc ?_ | refine finN rfl rfl sc ?_ | refine finL true rfl rfl sc rfl (LeR.cons rfl leL LeR.nil) ?_ | refine finE true rfl rfl sc ?_ | refine finE false rfl rfl sc ?_))
  refine awp_loop1 (fun (i : Nat) => ([(0, .d (qsD (x :: l))), (2, .ptr 2 0), (3, .ptr 3 0), (4, .d (.int .i64 i))], [(2, .box 28 zI), (3, .box 28 ((iC (rq (((x :: l).take i).foldl minQ x)) (rq (((x :: l).take i).foldl maxQ x))).map V.d))])) (fun i => 1 ≤ i ∧ i ≤ (x :: l).length) (fun i => (x :: l).length - i) 1 ⟨by omega, by simp⟩ ?_ ?_ (fun i hi => ?_)
  · rw [show (x :: l).take 1 = [x] by simp]
    exact ⟨rfl, rfl, rfl, rfl, rfl⟩
  · rw [show (x :: l).take 1 = [x] by simp]
    simp only [List.foldl_cons, List.foldl_nil, minQ_self, maxQ_self]
    exact ⟨rfl, rfl, trivial⟩
  obtain ⟨i1, i2⟩ := hi
  by_cases h3 : i < (x :: l).length
  · have hk := take_ok (k := 90000) hx h i
    have hg := getD_ok h h3
    have e1 := foldl_take minQ x (x :: l) h3
    have e2 := foldl_take maxQ x (x :: l) h3
    have m1 := ref03_MinQ (((x :: l).take i).foldl minQ x) ((x :: l).getD i 0) (hk.1.mono (by decide)) (hg.mono (by decide))
    have m2 := ref03_MaxQ (((x :: l).take i).foldl maxQ x) ((x :: l).getD i 0) (hk.2.mono (by decide)) (hg.mono (by decide))
    rw [← e1] at m1
    rw [← e2] at m2
    repeat' (first
      | (show awpL _ _ _ _ _; first | refine goL ?_ | refine cl 80 tt rfl rfl rfl (hr := m1) (k := ?_) | refine cl 79 tt rfl rfl rfl (hr := m2) (k := ?_) | (refine gdLD rfl rfl (fun _ => ?_) (fun _ => ?_) <;> try (exfalso; omega)) | (refine gdLN rfl rfl (fun _ => ?_) (fun _ => ?_) <;> try (exfalso; omega)) | refine gdL rfl rfl (fun _ => ?_) (fun _ => ?_))
      | (show awp _ _ _ _; first | refine goA ?_ | refine awp_regK 1 10 [3] mixed (by kernel_rfl) (by kernel_rfl) (by kernel_rfl) ?_ | refine awp_reg 5 13 mixed (by kernel_rfl) (by kernel_rfl) ?_ | (refine awp_condD rfl (fun _ => ?_) (fun _ => ?_) <;> try (exfalso; omega)) | (refine awp_condN rfl (fun _ => ?_) (fun _ => ?_) <;> try (exfalso; omega)) | refine awp_cond rfl (fun _ => ?_) (fun _ => ?_))
      | (show andThen _ _ _ _; first | refine goN ?_)
      | (show inBlock _ _ _ _; first | refine goB ?_)
      | (show awpR _ _ _ _ _ _; first | refine goR ?_ | refine clR 80 tt rfl rfl rfl (hr := m1) (k := ?_) | refine clR 79 tt rfl rfl rfl (hr := m2) (k := ?_) | (refine gdRD rfl rfl (fun _ => ?_) (fun _ => ?_) <;> try (exfalso; omega)) | (refine gdRN rfl rfl (fun _ => ?_) (fun _ => ?_) <;> try (exfalso; omega)) | refine gdR rfl rfl (fun _ => ?_) (fun _ => ?_))
      | (show retPost _ _ _ _ _; first | refine finF true rfl rfl sc ?_ | refine finF false rfl rfl sc ?_ | refine finC false rfl rfl sc sc ?_ | refine finN rfl rfl sc ?_ | refine finL true rfl rfl sc rfl (LeR.cons rfl leL LeR.nil) ?_ | refine finE true rfl rfl sc ?_ | refine finE false rfl rfl sc ?_))
    exact ⟨i + 1, ⟨by omega, by omega⟩, by omega, ⟨rfl, rfl, rfl, iv (by omega), rfl⟩, rfl, rfl, trivial⟩
  · have e : (x :: l).take i = x :: l := List.take_of_length_le (by omega)
    rw [e]
    simp only [List.foldl_cons, minQ_self, maxQ_self]
    repeat' (first
      | (show awpL _ _ _ _ _; first | refine goL ?_ | (refine gdLD rfl rfl (fun _ => ?_) (fun _ => ?_) <;> try (exfalso; omega)) | (refine gdLN rfl rfl (fun _ => ?_) (fun _ => ?_) <;> try (exfalso; omega)) | refine gdL rfl rfl (fun _ => ?_) (fun _ => ?_))
      | (show awp _ _ _ _; first | refine goA ?_ | refine awp_regK 1 10 [3] mixed (by kernel_rfl) (by kernel_rfl) (by kernel_rfl) ?_ | refine awp_reg 5 13 mixed (by kernel_rfl) (by kernel_rfl) ?_ | (refine awp_condD rfl (fun _ => ?_) (fun _ => ?_) <;> try (exfalso; omega)) | (refine awp_condN rfl (fun _ => ?_) (fun _ => ?_) <;> try (exfalso; omega)) | refine awp_cond rfl (fun _ => ?_) (fun _ => ?_))
      | (show andThen _ _ _ _; first | refine goN ?_)
      | (show inBlock _ _ _ _; first | refine goB ?_)
      | (show awpR _ _ _ _ _ _; first | refine goR ?_ | (refine gdRD rfl rfl (fun _ => ?_) (fun _ => ?_) <;> try (exfalso; omega)) | (refine gdRN rfl rfl (fun _ => ?_) (fun _ => ?_) <;> try (exfalso; omega)) | refine gdR rfl rfl (fun _ => ?_) (fun _ => ?_))
      | (show retPost _ _ _ _ _; first | refine finF true rfl rfl sc ?_ | refine finF false rfl rfl sc ?_ | refine finC false rfl rfl sc sc ?_ | refine finN rfl rfl sc ?_ | refine finL true rfl rfl sc rfl (LeR.cons rfl leL LeR.nil) ?_ | refine finE true rfl rfl sc ?_ | refine finE false rfl rfl sc ?_))
    rfl
theorem ref04_Add (a b c d : R3) (ha : RatOk a 20000) (hb : RatOk b 20000) (hc : RatOk c 20000) (hd : RatOk d 20000) : Ret Tryz.prog 40 [iD a b, iD c d] (· = iQ (addI (takeI (rv a) (rv b)) (takeI (rv c) (rv d)))) := by
  have t1 := ref04_Take a b ha hb
  have o1 := takeI_ok (k := 20000) (okQ_rv ha (by decide)) (okQ_rv hb (by decide)) (by decide)
  have q1 := takeI_le (rv a) (rv b)
  generalize takeI (rv a) (rv b) = i at *
  obtain ⟨p, q⟩ := i
  obtain ⟨op, oq⟩ := o1
  simp only at op oq q1
  have t2 := ref04_Take c d hc hd
  have o2 := takeI_ok (k := 20000) (okQ_rv hc (by decide)) (okQ_rv hd (by decide)) (by decide)
  have q2 := takeI_le (rv c) (rv d)
  generalize takeI (rv c) (rv d) = j at *
  obtain ⟨s, t⟩ := j
  obtain ⟨os, ot⟩ := o2
  simp only at os ot q2
  have m1 := ref03_AddQ p s (op.mono (by decide)) (os.mono (by decide))
  have m2 := ref03_AddQ q t (oq.mono (by decide)) (ot.mono (by decide))
  refine ret_of_awp tab Tryz.func40 rfl rfl (Nat.le_of_ble_eq_true rfl) (fun w0 F0 => ?_)
  repeat' (first
    | (show awpL _ _ _ _ _; first | refine goL ?_ | refine cl 65 tt rfl rfl rfl (hr := t1) (k := ?_) | refine cl 65 tt rfl rfl rfl (hr := t2) (k := ?_) | refine cl 45 tt rfl rfl rfl (hr := m1) (k := ?_) | refine cl 45 tt rfl rfl rfl (hr := m2) (k := ?_) | (refine gdLD rfl rfl (fun _ => ?_) (fun _ => ?_) <;> try (exfalso; omega)) | (refine gdLN rfl rfl (fun _ => ?_) (fun _ => ?_) <;> try (exfalso; omega)) | refine gdL rfl rfl (fun _ => ?_) (fun _ => ?_))
    | (show awp _ _ _ _; first | refine goA ?_ | refine awp_reg 1 3 mixed (by kernel_rfl) (by kernel_rfl) ?_ | refine awp_reg 2 9 mixed (by kernel_rfl) (by kernel_rfl) ?_ | (refine awp_condD rfl (fun _ => ?_) (fun _ => ?_) <;> try (exfalso; omega)) | (refine awp_condN rfl (fun _ => ?_) (fun _ => ?_) <;> try (exfalso; omega)) | refine awp_cond rfl (fun _ => ?_) (fun _ => ?_))
    | (show andThen _ _ _ _; first | refine goN ?_)
    | (show inBlock _ _ _ _; first | refine goB ?_)
    | (show awpR _ _ _ _ _ _; first | refine goR ?_ | refine clR 65 tt rfl rfl rfl (hr := t1) (k := ?_) | refine clR 65 tt rfl rfl rfl (hr := t2) (k := ?_) | refine clR 45 tt rfl rfl rfl (hr := m1) (k := ?_) | refine clR 45 tt rfl rfl rfl (hr := m2) (k := ?_) | (refine gdRD rfl rfl (fun _ => ?_) (fun _ => ?_) <;> try (exfalso; omega)) | (refine gdRN rfl rfl (fun _ => ?_) (fun _ => ?_) <;> try (exfalso; omega)) | refine gdR rfl rfl (fun _ => ?_) (fun _ => ?_))
    | (show retPost _ _ _ _ _; first | refine finF true rfl rfl sc ?_ | refine finF false rfl rfl sc ?_ | refine finC false rfl rfl sc sc ?_ | refine finN rfl rfl sc ?_ | refine finL true rfl rfl sc rfl (LeR.cons rfl leL LeR.nil) ?_ | refine finE true rfl rfl sc ?_ | refine finE false rfl rfl sc ?_))
  rfl
theorem ref04_Sub (a b c d : R3) (ha : RatOk a 20000) (hb : RatOk b 20000) (hc : RatOk c 20000) (hd : RatOk d 20000) : Ret Tryz.prog 41 [iD a b, iD c d] (· = iQ (subI (takeI (rv a) (rv b)) (takeI (rv c) (rv d)))) := by
  have t1 := ref04_Take a b ha hb
  have o1 := takeI_ok (k := 20000) (okQ_rv ha (by decide)) (okQ_rv hb (by decide)) (by decide)
  have q1 := takeI_le (rv a) (rv b)
  generalize takeI (rv a) (rv b) = i at *
  obtain ⟨p, q⟩ := i
  obtain ⟨op, oq⟩ := o1
  simp only at op oq q1
  have t2 := ref04_Take c d hc hd
  have o2 := takeI_ok (k := 20000) (okQ_rv hc (by decide)) (okQ_rv hd (by decide)) (by decide)
  have q2 := takeI_le (rv c) (rv d)
  generalize takeI (rv c) (rv d) = j at *
  obtain ⟨s, t⟩ := j
  obtain ⟨os, ot⟩ := o2
  simp only at os ot q2
  have m1 := ref03_SubQ p t (op.mono (by decide)) (ot.mono (by decide))
  have m2 := ref03_SubQ q s (oq.mono (by decide)) (os.mono (by decide))
  refine ret_of_awp tab Tryz.func41 rfl rfl (Nat.le_of_ble_eq_true rfl) (fun w0 F0 => ?_)
  repeat' (first
    | (show awpL _ _ _ _ _; first | refine goL ?_ | refine cl 65 tt rfl rfl rfl (hr := t1) (k := ?_) | refine cl 65 tt rfl rfl rfl (hr := t2) (k := ?_) | refine cl 46 tt rfl rfl rfl (hr := m1) (k := ?_) | refine cl 46 tt rfl rfl rfl (hr := m2) (k := ?_) | (refine gdLD rfl rfl (fun _ => ?_) (fun _ => ?_) <;> try (exfalso; omega)) | (refine gdLN rfl rfl (fun _ => ?_) (fun _ => ?_) <;> try (exfalso; omega)) | refine gdL rfl rfl (fun _ => ?_) (fun _ => ?_))
    | (show awp _ _ _ _; first | refine goA ?_ | refine awp_reg 1 3 mixed (by kernel_rfl) (by kernel_rfl) ?_ | refine awp_reg 2 9 mixed (by kernel_rfl) (by kernel_rfl) ?_ | (refine awp_condD rfl (fun _ => ?_) (fun _ => ?_) <;> try (exfalso; omega)) | (refine awp_condN rfl (fun _ => ?_) (fun _ => ?_) <;> try (exfalso; omega)) | refine awp_cond rfl (fun _ => ?_) (fun _ => ?_))
    | (show andThen _ _ _ _; first | refine goN ?_)
    | (show inBlock _ _ _ _; first | refine goB ?_)
    | (show awpR _ _ _ _ _ _; first | refine goR ?_ | refine clR 65 tt rfl rfl rfl (hr := t1) (k := ?_) | refine clR 65 tt rfl rfl rfl (hr := t2) (k := ?_) | refine clR 46 tt rfl rfl rfl (hr := m1) (k := ?_) | refine clR 46 tt rfl rfl rfl (hr := m2) (k := ?_) | (refine gdRD rfl rfl (fun _ => ?_) (fun _ => ?_) <;> try (exfalso; omega)) | (refine gdRN rfl rfl (fun _ => ?_) (fun _ => ?_) <;> try (exfalso; omega)) | refine gdR rfl rfl (fun _ => ?_) (fun _ => ?_))
    | (show retPost _ _ _ _ _; first | refine finF true rfl rfl sc ?_ | refine finF false rfl rfl sc ?_ | refine finC false rfl rfl sc sc ?_ | refine finN rfl rfl sc ?_ | refine finL true rfl rfl sc rfl (LeR.cons rfl leL LeR.nil) ?_ | refine finE true rfl rfl sc ?_ | refine finE false rfl rfl sc ?_))
  rfl
theorem ref04_Mul (a b c d : R3) (ha : RatOk a 20000) (hb : RatOk b 20000) (hc : RatOk c 20000) (hd : RatOk d 20000) : Ret Tryz.prog 42 [iD a b, iD c d] (· = iQ (mulI (takeI (rv a) (rv b)) (takeI (rv c) (rv d)))) := by
  have t1 := ref04_Take a b ha hb
  have o1 := takeI_ok (k := 20000) (okQ_rv ha (by decide)) (okQ_rv hb (by decide)) (by decide)
  have q1 := takeI_le (rv a) (rv b)
  generalize takeI (rv a) (rv b) = i at *
  obtain ⟨p, q⟩ := i
  obtain ⟨op, oq⟩ := o1
  simp only at op oq q1
  have t2 := ref04_Take c d hc hd
  have o2 := takeI_ok (k := 20000) (okQ_rv hc (by decide)) (okQ_rv hd (by decide)) (by decide)
  have q2 := takeI_le (rv c) (rv d)
  generalize takeI (rv c) (rv d) = j at *
  obtain ⟨s, t⟩ := j
  obtain ⟨os, ot⟩ := o2
  simp only at os ot q2
  have m1 := ref03_MulQ p s (op.mono (by decide)) (os.mono (by decide))
  have m2 := ref03_MulQ p t (op.mono (by decide)) (ot.mono (by decide))
  have m3 := ref03_MulQ q s (oq.mono (by decide)) (os.mono (by decide))
  have m4 := ref03_MulQ q t (oq.mono (by decide)) (ot.mono (by decide))
  have hh := ref04_hull (p * s) [p * t, q * s, q * t] (by simp) (by
    intro x hx
    simp only [List.mem_cons, List.not_mem_nil, or_false] at hx
    rcases hx with h | h | h | h <;> rw [h]
    · exact (op.mul os).mono (by decide)
    · exact (op.mul ot).mono (by decide)
    · exact (oq.mul os).mono (by decide)
    · exact (oq.mul ot).mono (by decide))
  refine ret_of_awp tab Tryz.func42 rfl rfl (Nat.le_of_ble_eq_true rfl) (fun w0 F0 => ?_)
  repeat' (first
    | (show awpL _ _ _ _ _; first | refine goL ?_ | refine cl 65 tt rfl rfl rfl (hr := t1) (k := ?_) | refine cl 65 tt rfl rfl rfl (hr := t2) (k := ?_) | refine cl 15 tt rfl rfl rfl (hr := m1) (k := ?_) | refine cl 15 tt rfl rfl rfl (hr := m2) (k := ?_) | refine cl 15 tt rfl rfl rfl (hr := m3) (k := ?_) | refine cl 15 tt rfl rfl rfl (hr := m4) (k := ?_) | refine cl 77 tt rfl rfl rfl (hr := hh) (k := ?_) | (refine gdLD rfl rfl (fun _ => ?_) (fun _ => ?_) <;> try (exfalso; omega)) | (refine gdLN rfl rfl (fun _ => ?_) (fun _ => ?_) <;> try (exfalso; omega)) | refine gdL rfl rfl (fun _ => ?_) (fun _ => ?_))
    | (show awp _ _ _ _; first | refine goA ?_ | refine awp_reg 1 3 mixed (by kernel_rfl) (by kernel_rfl) ?_ | refine awp_reg 2 19 mixed (by kernel_rfl) (by kernel_rfl) ?_ | (refine awp_condD rfl (fun _ => ?_) (fun _ => ?_) <;> try (exfalso; omega)) | (refine awp_condN rfl (fun _ => ?_) (fun _ => ?_) <;> try (exfalso; omega)) | refine awp_cond rfl (fun _ => ?_) (fun _ => ?_))
    | (show andThen _ _ _ _; first | refine goN ?_)
    | (show inBlock _ _ _ _; first | refine goB ?_)
    | (show awpR _ _ _ _ _ _; first | refine goR ?_ | refine clR 65 tt rfl rfl rfl (hr := t1) (k := ?_) | refine clR 65 tt rfl rfl rfl (hr := t2) (k := ?_) | refine clR 15 tt rfl rfl rfl (hr := m1) (k := ?_) | refine clR 15 tt rfl rfl rfl (hr := m2) (k := ?_) | refine clR 15 tt rfl rfl rfl (hr := m3) (k := ?_) | refine clR 15 tt rfl rfl rfl (hr := m4) (k := ?_) | refine clR 77 tt rfl rfl rfl (hr := hh) (k := ?_) | (refine gdRD rfl rfl (fun _ => ?_) (fun _ => ?_) <;> try (exfalso; omega)) | (refine gdRN rfl rfl (fun _ => ?_) (fun _ => ?_) <;> try (exfalso; omega)) | refine gdR rfl rfl (fun _ => ?_) (fun _ => ?_))
    | (show retPost _ _ _ _ _; first | refine finF true rfl rfl sc ?_ | refine finF false rfl rfl sc ?_ | refine finC false rfl rfl sc sc ?_ | refine finN rfl rfl sc ?_ | refine finL true rfl rfl sc rfl (LeR.cons rfl leL LeR.nil) ?_ | refine finE true rfl rfl sc ?_ | refine finE false rfl rfl sc ?_))
  rfl
theorem nonzero_of {i : I2} (hle : i.1 ≤ i.2) (h : containsI i 0 = false) : i.1 ≠ 0 ∧ i.2 ≠ 0 := by
  constructor
  · intro e
    rw [show containsI i 0 = true by unfold containsI; rw [e] at hle ⊢; simp [hle]] at h
    exact absurd h (by decide)
  · intro e
    rw [show containsI i 0 = true by unfold containsI; rw [e] at hle ⊢; simp [hle]] at h
    exact absurd h (by decide)
theorem ref04_Div (a b c d : R3) (ha : RatOk a 20000) (hb : RatOk b 20000) (hc : RatOk c 20000) (hd : RatOk d 20000) : Ret Tryz.prog 39 [iD a b, iD c d] (· = if containsI (takeI (rv c) (rv d)) 0 then .tup [iD r0 r0, .int .i64 5] else .tup [iQ (divI (takeI (rv a) (rv b)) (takeI (rv c) (rv d))), .int .i64 0]) := by
  have t1 := ref04_Take a b ha hb
  have o1 := takeI_ok (k := 20000) (okQ_rv ha (by decide)) (okQ_rv hb (by decide)) (by decide)
  have q1 := takeI_le (rv a) (rv b)
  generalize takeI (rv a) (rv b) = i at *
  obtain ⟨p, q⟩ := i
  obtain ⟨op, oq⟩ := o1
  simp only at op oq q1
  have t2 := ref04_Take c d hc hd
  have o2 := takeI_ok (k := 20000) (okQ_rv hc (by decide)) (okQ_rv hd (by decide)) (by decide)
  have q2 := takeI_le (rv c) (rv d)
  generalize takeI (rv c) (rv d) = j at *
  obtain ⟨s, t⟩ := j
  obtain ⟨os, ot⟩ := o2
  simp only at os ot q2
  have hc0 := ref04_ContainsI (s, t) q2 ⟨os, ot⟩ r0 (ok_r0 (by decide))
  rw [rv_r0] at hc0
  cases hz : containsI (s, t) 0
  · rw [hz] at hc0
    have hn := nonzero_of q2 hz
    simp only at hn
    rw [if_neg (by decide), ← divRef_eq]
    unfold divRef
    simp only
    have m1 := ref03_QuoQ p s (op.mono (by decide)) (os.mono (by decide)) hn.1
    have m2 := ref03_QuoQ p t (op.mono (by decide)) (ot.mono (by decide)) hn.2
    have m3 := ref03_QuoQ q s (oq.mono (by decide)) (os.mono (by decide)) hn.1
    have m4 := ref03_QuoQ q t (oq.mono (by decide)) (ot.mono (by decide)) hn.2
    have hh := ref04_hull (p / s) [p / t, q / s, q / t] (by simp) (by
      intro x hx
      simp only [List.mem_cons, List.not_mem_nil, or_false] at hx
      rcases hx with h | h | h | h <;> rw [h]
      · exact (op.div os hn.1).mono (by decide)
      · exact (op.div ot hn.2).mono (by decide)
      · exact (oq.div os hn.1).mono (by decide)
      · exact (oq.div ot hn.2).mono (by decide))
    refine ret_of_awp tab Tryz.func39 rfl rfl (Nat.le_of_ble_eq_true rfl) (fun w0 F0 => ?_)
    repeat' (first
      | (show awpL _ _ _ _ _; first | refine goL ?_ | refine cl 65 tt rfl rfl rfl (hr := t1) (k := ?_) | refine cl 65 tt rfl rfl rfl (hr := t2) (k := ?_) | refine cl 18 tt rfl rfl rfl (hr := hc0) (k := ?_) | refine cl 44 tt rfl rfl rfl (hr := m1) (k := ?_) | refine cl 44 tt rfl rfl rfl (hr := m2) (k := ?_) | refine cl 44 tt rfl rfl rfl (hr := m3) (k := ?_) | refine cl 44 tt rfl rfl rfl (hr := m4) (k := ?_) | refine cl 77 tt rfl rfl rfl (hr := hh) (k := ?_) | (refine gdLD rfl rfl (fun _ => ?_) (fun _ => ?_) <;> try (exfalso; omega)) | (refine gdLN rfl rfl (fun _ => ?_) (fun _ => ?_) <;> try (exfalso; omega)) | refine gdL rfl rfl (fun _ => ?_) (fun _ => ?_))
      | (show awp _ _ _ _; first | refine goA ?_ | refine awp_reg 1 3 mixed (by kernel_rfl) (by kernel_rfl) ?_ | refine awp_reg 4 19 mixed (by kernel_rfl) (by kernel_rfl) ?_ | (refine awp_condD rfl (fun _ => ?_) (fun _ => ?_) <;> try (exfalso; omega)) | (refine awp_condN rfl (fun _ => ?_) (fun _ => ?_) <;> try (exfalso; omega)) | refine awp_cond rfl (fun _ => ?_) (fun _ => ?_))
      | (show andThen _ _ _ _; first | refine goN ?_)
      | (show inBlock _ _ _ _; first | refine goB ?_)
      | (show awpR _ _ _ _ _ _; first | refine goR ?_ | refine clR 65 tt rfl rfl rfl (hr := t1) (k := ?_) | refine clR 65 tt rfl rfl rfl (hr := t2) (k := ?_) | refine clR 18 tt rfl rfl rfl (hr := hc0) (k := ?_) | refine clR 44 tt rfl rfl rfl (hr := m1) (k := ?_) | refine clR 44 tt rfl rfl rfl (hr := m2) (k := ?_) | refine clR 44 tt rfl rfl rfl (hr := m3) (k := ?_) | refine clR 44 tt rfl rfl rfl (hr := m4) (k := ?_) | refine clR 77 tt rfl rfl rfl (hr := hh) (k := ?_) | (refine gdRD rfl rfl (fun _ => ?_) (fun _ => ?_) <;> try (exfalso; omega)) | (refine gdRN rfl rfl (fun _ => ?_) (fun _ => ?_) <;> try (exfalso; omega)) | refine gdR rfl rfl (fun _ => ?_) (fun _ => ?_))
      | (show retPost _ _ _ _ _; first | refine finF true rfl rfl sc ?_ | refine finF false rfl rfl sc ?_ | refine finC false rfl rfl sc sc ?_ | refine finN rfl rfl sc ?_ | refine finL true rfl rfl sc rfl (LeR.cons rfl leL LeR.nil) ?_ | refine finE true rfl rfl sc ?_ | refine finE false rfl rfl sc ?_))
    rfl
  · rw [hz] at hc0
    rw [if_pos rfl]
    refine ret_of_awp tab Tryz.func39 rfl rfl (Nat.le_of_ble_eq_true rfl) (fun w0 F0 => ?_)
    repeat' (first
      | (show awpL _ _ _ _ _; first | refine goL ?_ | refine cl 65 tt rfl rfl rfl (hr := t1) (k := ?_) | refine cl 65 tt rfl rfl rfl (hr := t2) (k := ?_) | refine cl 18 tt rfl rfl rfl (hr := hc0) (k := ?_) | (refine gdLD rfl rfl (fun _ => ?_) (fun _ => ?_) <;> try (exfalso; omega)) | (refine gdLN rfl rfl (fun _ => ?_) (fun _ => ?_) <;> try (exfalso; omega)) | refine gdL rfl rfl (fun _ => ?_) (fun _ => ?_))
      | (show awp _ _ _ _; first | refine goA ?_ | refine awp_reg 1 3 mixed (by kernel_rfl) (by kernel_rfl) ?_ | refine awp_reg 4 19 mixed (by kernel_rfl) (by kernel_rfl) ?_ | (refine awp_condD rfl (fun _ => ?_) (fun _ => ?_) <;> try (exfalso; omega)) | (refine awp_condN rfl (fun _ => ?_) (fun _ => ?_) <;> try (exfalso; omega)) | refine awp_cond rfl (fun _ => ?_) (fun _ => ?_))
      | (show andThen _ _ _ _; first | refine goN ?_)
      | (show inBlock _ _ _ _; first | refine goB ?_)
      | (show awpR _ _ _ _ _ _; first | refine goR ?_ | refine clR 65 tt rfl rfl rfl (hr := t1) (k := ?_) | refine clR 65 tt rfl rfl rfl (hr := t2) (k := ?_) | refine clR 18 tt rfl rfl rfl (hr := hc0) (k := ?_) | (refine gdRD rfl rfl (fun _ => ?_) (fun _ => ?_) <;> try (exfalso; omega)) | (refine gdRN rfl rfl (fun _ => ?_) (fun _ => ?_) <;> try (exfalso; omega)) | refine gdR rfl rfl (fun _ => ?_) (fun _ => ?_))
      | (show retPost _ _ _ _ _; first | refine finF true rfl rfl sc ?_ | refine finF false rfl rfl sc ?_ | refine finC false rfl rfl sc sc ?_ | refine finN rfl rfl sc ?_ | refine finL true rfl rfl sc rfl (LeR.cons rfl leL LeR.nil) ?_ | refine finT true rfl rfl sc ?_ | refine finT false rfl rfl sc ?_ | refine finE true rfl rfl sc ?_ | refine finE false rfl rfl sc ?_))
    exact leT
theorem ref04_Square (a b : R3) (ha : RatOk a 20000) (hb : RatOk b 20000) : Ret Tryz.prog 24 [iD a b] (· = iQ (sqI (takeI (rv a) (rv b)))) := by
  have t1 := ref04_Take a b ha hb
  have o1 := takeI_ok (k := 20000) (okQ_rv ha (by decide)) (okQ_rv hb (by decide)) (by decide)
  have q1 := takeI_le (rv a) (rv b)
  generalize takeI (rv a) (rv b) = i at *
  obtain ⟨p, q⟩ := i
  obtain ⟨op, oq⟩ := o1
  simp only at op oq q1
  have hc0 := ref04_ContainsI (p, q) q1 ⟨op, oq⟩ r0 (ok_r0 (by decide))
  rw [rv_r0] at hc0
  have m1 := ref03_MulQ p p (op.mono (by decide)) (op.mono (by decide))
  have m2 := ref03_MulQ q q (oq.mono (by decide)) (oq.mono (by decide))
  rw [← sqRef_eq]
  unfold sqRef
  cases hz : containsI (p, q) 0
  · rw [hz] at hc0
    rw [if_neg (by decide)]
    have hh := ref04_hull (p * p) [q * q] (by simp) (by
      intro x hx
      simp only [List.mem_cons, List.not_mem_nil, or_false] at hx
      rcases hx with h | h <;> rw [h]
      · exact (op.mul op).mono (by decide)
      · exact (oq.mul oq).mono (by decide))
    refine ret_of_awp tab Tryz.func24 rfl rfl (Nat.le_of_ble_eq_true rfl) (fun w0 F0 => ?_)
    repeat' (first
      | (show awpL _ _ _ _ _; first | refine goL ?_ | refine cl 65 tt rfl rfl rfl (hr := t1) (k := ?_) | refine cl 18 tt rfl rfl rfl (hr := hc0) (k := ?_) | refine cl 15 tt rfl rfl rfl (hr := m1) (k := ?_) | refine cl 15 tt rfl rfl rfl (hr := m2) (k := ?_) | refine cl 77 tt rfl rfl rfl (hr := hh) (k := ?_) | (refine gdLD rfl rfl (fun _ => ?_) (fun _ => ?_) <;> try (exfalso; omega)) | (refine gdLN rfl rfl (fun _ => ?_) (fun _ => ?_) <;> try (exfalso; omega)) | refine gdL rfl rfl (fun _ => ?_) (fun _ => ?_))
      | (show awp _ _ _ _; first | refine goA ?_ | refine awp_regK 2 12 [3, 4] mixed (by kernel_rfl) (by kernel_rfl) (by kernel_rfl) ?_ | (refine awp_condD rfl (fun _ => ?_) (fun _ => ?_) <;> try (exfalso; omega)) | (refine awp_condN rfl (fun _ => ?_) (fun _ => ?_) <;> try (exfalso; omega)) | refine awp_cond rfl (fun _ => ?_) (fun _ => ?_))
      | (show andThen _ _ _ _; first | refine goN ?_)
      | (show inBlock _ _ _ _; first | refine goB ?_)
      | (show awpR _ _ _ _ _ _; first | refine goR ?_ | refine clR 65 tt rfl rfl rfl (hr := t1) (k := ?_) | refine clR 18 tt rfl rfl rfl (hr := hc0) (k := ?_) | refine clR 15 tt rfl rfl rfl (hr := m1) (k := ?_) | refine clR 15 tt rfl rfl rfl (hr := m2) (k := ?_) | refine clR 77 tt rfl rfl rfl (hr := hh) (k := ?_) | (refine gdRD rfl rfl (fun _ => ?_) (fun _ => ?_) <;> try (exfalso; omega)) | (refine gdRN rfl rfl (fun _ => ?_) (fun _ => ?_) <;> try (exfalso; omega)) | refine gdR rfl rfl (fun _ => ?_) (fun _ => ?_))
      | (show retPost _ _ _ _ _; first | refine finF true rfl rfl sc ?_ | refine finF false rfl rfl sc ?_ | refine finC false rfl rfl sc sc ?_ | refine finN rfl rfl sc ?_ | refine finL true rfl rfl sc rfl (LeR.cons rfl leL LeR.nil) ?_ | refine finE true rfl rfl sc ?_ | refine finE false rfl rfl sc ?_))
    rfl
  · rw [hz] at hc0
    rw [if_pos rfl]
    have hh := ref04_hull 0 [p * p, q * q] (by simp) (by
      intro x hx
      simp only [List.mem_cons, List.not_mem_nil, or_false] at hx
      rcases hx with h | h | h <;> rw [h]
      · exact okQ_zero (by decide)
      · exact (op.mul op).mono (by decide)
      · exact (oq.mul oq).mono (by decide))
    have hh2 : Ret Tryz.prog 77 [rsD [r0, rq (p * p), rq (q * q)]] (· = iQ (hullL 0 [p * p, q * q])) := by
      have := hh.args (LeT.cons (leQs _) LeT.nil)
      rw [List.map_cons, List.map_cons, List.map_cons, List.map_nil, rq_zero] at this
      exact this
    refine ret_of_awp tab Tryz.func24 rfl rfl (Nat.le_of_ble_eq_true rfl) (fun w0 F0 => ?_)
    repeat' (first
      | (show awpL _ _ _ _ _; first | refine goL ?_ | refine cl 65 tt rfl rfl rfl (hr := t1) (k := ?_) | refine cl 18 tt rfl rfl rfl (hr := hc0) (k := ?_) | refine cl 15 tt rfl rfl rfl (hr := m1) (k := ?_) | refine cl 15 tt rfl rfl rfl (hr := m2) (k := ?_) | refine cl 77 tt rfl rfl rfl (hr := hh2) (k := ?_) | (refine gdLD rfl rfl (fun _ => ?_) (fun _ => ?_) <;> try (exfalso; omega)) | (refine gdLN rfl rfl (fun _ => ?_) (fun _ => ?_) <;> try (exfalso; omega)) | refine gdL rfl rfl (fun _ => ?_) (fun _ => ?_))
      | (show awp _ _ _ _; first | refine goA ?_ | refine awp_regK 2 12 [3, 4] mixed (by kernel_rfl) (by kernel_rfl) (by kernel_rfl) ?_ | (refine awp_condD rfl (fun _ => ?_) (fun _ => ?_) <;> try (exfalso; omega)) | (refine awp_condN rfl (fun _ => ?_) (fun _ => ?_) <;> try (exfalso; omega)) | refine awp_cond rfl (fun _ => ?_) (fun _ => ?_))
      | (show andThen _ _ _ _; first | refine goN ?_)
      | (show inBlock _ _ _ _; first | refine goB ?_)
      | (show awpR _ _ _ _ _ _; first | refine goR ?_ | refine clR 65 tt rfl rfl rfl (hr := t1) (k := ?_) | refine clR 18 tt rfl rfl rfl (hr := hc0) (k := ?_) | refine clR 15 tt rfl rfl rfl (hr := m1) (k := ?_) | refine clR 15 tt rfl rfl rfl (hr := m2) (k := ?_) | refine clR 77 tt rfl rfl rfl (hr := hh2) (k := ?_) | (refine gdRD rfl rfl (fun _ => ?_) (fun _ => ?_) <;> try (exfalso; omega)) | (refine gdRN rfl rfl (fun _ => ?_) (fun _ => ?_) <;> try (exfalso; omega)) | refine gdR rfl rfl (fun _ => ?_) (fun _ => ?_))
      | (show retPost _ _ _ _ _; first | refine finF true rfl rfl sc ?_ | refine finF false rfl rfl sc ?_ | refine finC false rfl rfl sc sc ?_ | refine finN rfl rfl sc ?_ | refine finL true rfl rfl sc rfl (LeR.cons rfl leL LeR.nil) ?_ | refine finE true rfl rfl sc ?_ | refine finE false rfl rfl sc ?_))
    rfl
theorem ref04_Hull (a b c d : R3) (ha : RatOk a 20000) (hb : RatOk b 20000) (hc : RatOk c 20000) (hd : RatOk d 20000) : Ret Tryz.prog 37 [iD a b, iD c d] (· = iQ (hullI (takeI (rv a) (rv b)) (takeI (rv c) (rv d)))) := by
  have t1 := ref04_Take a b ha hb
  have o1 := takeI_ok (k := 20000) (okQ_rv ha (by decide)) (okQ_rv hb (by decide)) (by decide)
  have q1 := takeI_le (rv a) (rv b)
  generalize takeI (rv a) (rv b) = i at *
  obtain ⟨p, q⟩ := i
  obtain ⟨op, oq⟩ := o1
  simp only at op oq q1
  have t2 := ref04_Take c d hc hd
  have o2 := takeI_ok (k := 20000) (okQ_rv hc (by decide)) (okQ_rv hd (by decide)) (by decide)
  have q2 := takeI_le (rv c) (rv d)
  generalize takeI (rv c) (rv d) = j at *
  obtain ⟨s, t⟩ := j
  obtain ⟨os, ot⟩ := o2
  simp only at os ot q2
  have hh := ref04_hull p [q, s, t] (by simp) (by
    intro x hx
    simp only [List.mem_cons, List.not_mem_nil, or_false] at hx
    rcases hx with h | h | h | h <;> rw [h]
    · exact op.mono (by decide)
    · exact oq.mono (by decide)
    · exact os.mono (by decide)
    · exact ot.mono (by decide))
  refine ret_of_awp tab Tryz.func37 rfl rfl (Nat.le_of_ble_eq_true rfl) (fun w0 F0 => ?_)
  repeat' (first
    | (show awpL _ _ _ _ _; first | refine goL ?_ | refine cl 65 tt rfl rfl rfl (hr := t1) (k := ?_) | refine cl 65 tt rfl rfl rfl (hr := t2) (k := ?_) | refine cl 77 tt rfl rfl rfl (hr := hh) (k := ?_) | (refine gdLD rfl rfl (fun _ => ?_) (fun _ => ?_) <;> try (exfalso; omega)) | (refine gdLN rfl rfl (fun _ => ?_) (fun _ => ?_) <;> try (exfalso; omega)) | refine gdL rfl rfl (fun _ => ?_) (fun _ => ?_))
    | (show awp _ _ _ _; first | refine goA ?_ | refine awp_reg 1 3 mixed (by kernel_rfl) (by kernel_rfl) ?_ | (refine awp_condD rfl (fun _ => ?_) (fun _ => ?_) <;> try (exfalso; omega)) | (refine awp_condN rfl (fun _ => ?_) (fun _ => ?_) <;> try (exfalso; omega)) | refine awp_cond rfl (fun _ => ?_) (fun _ => ?_))
    | (show andThen _ _ _ _; first | refine goN ?_)
    | (show inBlock _ _ _ _; first | refine goB ?_)
    | (show awpR _ _ _ _ _ _; first | refine goR ?_ | refine clR 65 tt rfl rfl rfl (hr := t1) (k := ?_) | refine clR 65 tt rfl rfl rfl (hr := t2) (k := ?_) | refine clR 77 tt rfl rfl rfl (hr := hh) (k := ?_) | (refine gdRD rfl rfl (fun _ => ?_) (fun _ => ?_) <;> try (exfalso; omega)) | (refine gdRN rfl rfl (fun _ => ?_) (fun _ => ?_) <;> try (exfalso; omega)) | refine gdR rfl rfl (fun _ => ?_) (fun _ => ?_))
    | (show retPost _ _ _ _ _; first | refine finF true rfl rfl sc ?_ | refine finF false rfl rfl sc ?_ | refine finC false rfl rfl sc sc ?_ | refine finN rfl rfl sc ?_ | refine finL true rfl rfl sc rfl (LeR.cons rfl leL LeR.nil) ?_ | refine finE true rfl rfl sc ?_ | refine finE false rfl rfl sc ?_))
  rfl
theorem ref04_Meet (a b c d : R3) (ha : RatOk a 20000) (hb : RatOk b 20000) (hc : RatOk c 20000) (hd : RatOk d 20000) : Ret Tryz.prog 33 [iD a b, iD c d] (· = match meetI (takeI (rv a) (rv b)) (takeI (rv c) (rv d)) with | none => .tup [iD r0 r0, .bool false] | some m => .tup [iQ m, .bool true]) := by
  have t1 := ref04_Take a b ha hb
  have o1 := takeI_ok (k := 20000) (okQ_rv ha (by decide)) (okQ_rv hb (by decide)) (by decide)
  have q1 := takeI_le (rv a) (rv b)
  generalize takeI (rv a) (rv b) = i at *
  obtain ⟨p, q⟩ := i
  obtain ⟨op, oq⟩ := o1
  simp only at op oq q1
  have t2 := ref04_Take c d hc hd
  have o2 := takeI_ok (k := 20000) (okQ_rv hc (by decide)) (okQ_rv hd (by decide)) (by decide)
  have q2 := takeI_le (rv c) (rv d)
  generalize takeI (rv c) (rv d) = j at *
  obtain ⟨s, t⟩ := j
  obtain ⟨os, ot⟩ := o2
  simp only at os ot q2
  have m1 := ref03_MaxQ p s (op.mono (by decide)) (os.mono (by decide))
  have m2 := ref03_MinQ q t (oq.mono (by decide)) (ot.mono (by decide))
  have o3 := okQ_maxQ op os
  have o4 := okQ_minQ oq ot
  unfold meetI
  simp only
  generalize maxQ p s = x at *
  generalize minQ q t = y at *
  have hl := ref03_LessQ y x (o4.mono (by decide)) (o3.mono (by decide))
  by_cases h : y < x
  · rw [decide_eq_true h] at hl
    rw [if_pos h]
    refine ret_of_awp tab Tryz.func33 rfl rfl (Nat.le_of_ble_eq_true rfl) (fun w0 F0 => ?_)
    repeat' (first
      | (show awpL _ _ _ _ _; first | refine goL ?_ | refine cl 65 tt rfl rfl rfl (hr := t1) (k := ?_) | refine cl 65 tt rfl rfl rfl (hr := t2) (k := ?_) | refine cl 79 tt rfl rfl rfl (hr := m1) (k := ?_) | refine cl 80 tt rfl rfl rfl (hr := m2) (k := ?_) | refine cl 27 tt rfl rfl rfl (hr := hl) (k := ?_) | (refine gdLD rfl rfl (fun _ => ?_) (fun _ => ?_) <;> try (exfalso; omega)) | (refine gdLN rfl rfl (fun _ => ?_) (fun _ => ?_) <;> try (exfalso; omega)) | refine gdL rfl rfl (fun _ => ?_) (fun _ => ?_))
      | (show awp _ _ _ _; first | refine goA ?_ | refine awp_reg 1 3 mixed (by kernel_rfl) (by kernel_rfl) ?_ | refine awp_regK 2 12 [6, 7] mixed (by kernel_rfl) (by kernel_rfl) (by kernel_rfl) ?_ | (refine awp_condD rfl (fun _ => ?_) (fun _ => ?_) <;> try (exfalso; omega)) | (refine awp_condN rfl (fun _ => ?_) (fun _ => ?_) <;> try (exfalso; omega)) | refine awp_cond rfl (fun _ => ?_) (fun _ => ?_))
      | (show andThen _ _ _ _; first | refine goN ?_)
      | (show inBlock _ _ _ _; first | refine goB ?_)
      | (show awpR _ _ _ _ _ _; first | refine goR ?_ | refine clR 65 tt rfl rfl rfl (hr := t1) (k := ?_) | refine clR 65 tt rfl rfl rfl (hr := t2) (k := ?_) | refine clR 79 tt rfl rfl rfl (hr := m1) (k := ?_) | refine clR 80 tt rfl rfl rfl (hr := m2) (k := ?_) | refine clR 27 tt rfl rfl rfl (hr := hl) (k := ?_) | (refine gdRD rfl rfl (fun _ => ?_) (fun _ => ?_) <;> try (exfalso; omega)) | (refine gdRN rfl rfl (fun _ => ?_) (fun _ => ?_) <;> try (exfalso; omega)) | refine gdR rfl rfl (fun _ => ?_) (fun _ => ?_))
      | (show retPost _ _ _ _ _; first | refine finF true rfl rfl sc ?_ | refine finF false rfl rfl sc ?_ | refine finC false rfl rfl sc sc ?_ | refine finN rfl rfl sc ?_ | refine finL true rfl rfl sc rfl (LeR.cons rfl leL LeR.nil) ?_ | refine finT true rfl rfl sc ?_ | refine finT false rfl rfl sc ?_ | refine finE true rfl rfl sc ?_ | refine finE false rfl rfl sc ?_))
    exact leT
  · rw [decide_eq_false h] at hl
    rw [if_neg h]
    refine ret_of_awp tab Tryz.func33 rfl rfl (Nat.le_of_ble_eq_true rfl) (fun w0 F0 => ?_)
    repeat' (first
      | (show awpL _ _ _ _ _; first | refine goL ?_ | refine cl 65 tt rfl rfl rfl (hr := t1) (k := ?_) | refine cl 65 tt rfl rfl rfl (hr := t2) (k := ?_) | refine cl 79 tt rfl rfl rfl (hr := m1) (k := ?_) | refine cl 80 tt rfl rfl rfl (hr := m2) (k := ?_) | refine cl 27 tt rfl rfl rfl (hr := hl) (k := ?_) | (refine gdLD rfl rfl (fun _ => ?_) (fun _ => ?_) <;> try (exfalso; omega)) | (refine gdLN rfl rfl (fun _ => ?_) (fun _ => ?_) <;> try (exfalso; omega)) | refine gdL rfl rfl (fun _ => ?_) (fun _ => ?_))
      | (show awp _ _ _ _; first | refine goA ?_ | refine awp_reg 1 3 mixed (by kernel_rfl) (by kernel_rfl) ?_ | refine awp_regK 2 12 [6, 7] mixed (by kernel_rfl) (by kernel_rfl) (by kernel_rfl) ?_ | (refine awp_condD rfl (fun _ => ?_) (fun _ => ?_) <;> try (exfalso; omega)) | (refine awp_condN rfl (fun _ => ?_) (fun _ => ?_) <;> try (exfalso; omega)) | refine awp_cond rfl (fun _ => ?_) (fun _ => ?_))
      | (show andThen _ _ _ _; first | refine goN ?_)
      | (show inBlock _ _ _ _; first | refine goB ?_)
      | (show awpR _ _ _ _ _ _; first | refine goR ?_ | refine clR 65 tt rfl rfl rfl (hr := t1) (k := ?_) | refine clR 65 tt rfl rfl rfl (hr := t2) (k := ?_) | refine clR 79 tt rfl rfl rfl (hr := m1) (k := ?_) | refine clR 80 tt rfl rfl rfl (hr := m2) (k := ?_) | refine clR 27 tt rfl rfl rfl (hr := hl) (k := ?_) | (refine gdRD rfl rfl (fun _ => ?_) (fun _ => ?_) <;> try (exfalso; omega)) | (refine gdRN rfl rfl (fun _ => ?_) (fun _ => ?_) <;> try (exfalso; omega)) | refine gdR rfl rfl (fun _ => ?_) (fun _ => ?_))
      | (show retPost _ _ _ _ _; first | refine finF true rfl rfl sc ?_ | refine finF false rfl rfl sc ?_ | refine finC false rfl rfl sc sc ?_ | refine finN rfl rfl sc ?_ | refine finL true rfl rfl sc rfl (LeR.cons rfl leL LeR.nil) ?_ | refine finE true rfl rfl sc ?_ | refine finE false rfl rfl sc ?_))
    rfl
theorem ref04_Width (a b : R3) (ha : RatOk a 20000) (hb : RatOk b 20000) : Ret Tryz.prog 51 [iD a b] (· = qD ((takeI (rv a) (rv b)).2 - (takeI (rv a) (rv b)).1)) := by
  have t1 := ref04_Take a b ha hb
  have o1 := takeI_ok (k := 20000) (okQ_rv ha (by decide)) (okQ_rv hb (by decide)) (by decide)
  have q1 := takeI_le (rv a) (rv b)
  generalize takeI (rv a) (rv b) = i at *
  obtain ⟨p, q⟩ := i
  obtain ⟨op, oq⟩ := o1
  simp only at op oq q1
  have m1 := ref03_SubQ q p (oq.mono (by decide)) (op.mono (by decide))
  refine ret_of_awp tab Tryz.func51 rfl rfl (Nat.le_of_ble_eq_true rfl) (fun w0 F0 => ?_)
  repeat' (first
    | (show awpL _ _ _ _ _; first | refine goL ?_ | refine cl 65 tt rfl rfl rfl (hr := t1) (k := ?_) | refine cl 46 tt rfl rfl rfl (hr := m1) (k := ?_) | (refine gdLD rfl rfl (fun _ => ?_) (fun _ => ?_) <;> try (exfalso; omega)) | (refine gdLN rfl rfl (fun _ => ?_) (fun _ => ?_) <;> try (exfalso; omega)) | refine gdL rfl rfl (fun _ => ?_) (fun _ => ?_))
    | (show awp _ _ _ _; first | refine goA ?_ | (refine awp_condD rfl (fun _ => ?_) (fun _ => ?_) <;> try (exfalso; omega)) | (refine awp_condN rfl (fun _ => ?_) (fun _ => ?_) <;> try (exfalso; omega)) | refine awp_cond rfl (fun _ => ?_) (fun _ => ?_))
    | (show andThen _ _ _ _; first | refine goN ?_)
    | (show inBlock _ _ _ _; first | refine goB ?_)
    | (show awpR _ _ _ _ _ _; first | refine goR ?_ | refine clR 65 tt rfl rfl rfl (hr := t1) (k := ?_) | refine clR 46 tt rfl rfl rfl (hr := m1) (k := ?_) | (refine gdRD rfl rfl (fun _ => ?_) (fun _ => ?_) <;> try (exfalso; omega)) | (refine gdRN rfl rfl (fun _ => ?_) (fun _ => ?_) <;> try (exfalso; omega)) | refine gdR rfl rfl (fun _ => ?_) (fun _ => ?_))
    | (show retPost _ _ _ _ _; first | refine finF true rfl rfl sc ?_ | refine finF false rfl rfl sc ?_ | refine finC false rfl rfl sc sc ?_ | refine finN rfl rfl sc ?_ | refine finL true rfl rfl sc rfl (LeR.cons rfl leL LeR.nil) ?_ | refine finE true rfl rfl sc ?_ | refine finE false rfl rfl sc ?_))
  rfl
theorem ref04_Mid (a b : R3) (ha : RatOk a 20000) (hb : RatOk b 20000) : Ret Tryz.prog 53 [iD a b] (· = qD (((takeI (rv a) (rv b)).1 + (takeI (rv a) (rv b)).2) / 2)) := by
  have t1 := ref04_Take a b ha hb
  have o1 := takeI_ok (k := 20000) (okQ_rv ha (by decide)) (okQ_rv hb (by decide)) (by decide)
  have q1 := takeI_le (rv a) (rv b)
  generalize takeI (rv a) (rv b) = i at *
  obtain ⟨p, q⟩ := i
  obtain ⟨op, oq⟩ := o1
  simp only at op oq q1
  have m1 := ref03_AddQ p q (op.mono (by decide)) (oq.mono (by decide))
  have m2 := ref03_FromIntQ 2 (by decide) (by decide)
  have o2 : okQ 1000000 ((2 : Int) : Rat) := okQ_int (by decide)
  have m3 := ref03_QuoQ (p + q) ((2 : Int) : Rat) ((op.add oq).mono (by decide)) o2 (by decide)
  refine ret_of_awp tab Tryz.func53 rfl rfl (Nat.le_of_ble_eq_true rfl) (fun w0 F0 => ?_)
  repeat' (first
    | (show awpL _ _ _ _ _; first | refine goL ?_ | refine cl 65 tt rfl rfl rfl (hr := t1) (k := ?_) | refine cl 45 tt rfl rfl rfl (hr := m1) (k := ?_) | refine cl 26 tt rfl rfl rfl (hr := m2) (k := ?_) | refine cl 44 tt rfl rfl rfl (hr := m3) (k := ?_) | (refine gdLD rfl rfl (fun _ => ?_) (fun _ => ?_) <;> try (exfalso; omega)) | (refine gdLN rfl rfl (fun _ => ?_) (fun _ => ?_) <;> try (exfalso; omega)) | refine gdL rfl rfl (fun _ => ?_) (fun _ => ?_))
    | (show awp _ _ _ _; first | refine goA ?_ | (refine awp_condD rfl (fun _ => ?_) (fun _ => ?_) <;> try (exfalso; omega)) | (refine awp_condN rfl (fun _ => ?_) (fun _ => ?_) <;> try (exfalso; omega)) | refine awp_cond rfl (fun _ => ?_) (fun _ => ?_))
    | (show andThen _ _ _ _; first | refine goN ?_)
    | (show inBlock _ _ _ _; first | refine goB ?_)
    | (show awpR _ _ _ _ _ _; first | refine goR ?_ | refine clR 65 tt rfl rfl rfl (hr := t1) (k := ?_) | refine clR 45 tt rfl rfl rfl (hr := m1) (k := ?_) | refine clR 26 tt rfl rfl rfl (hr := m2) (k := ?_) | refine clR 44 tt rfl rfl rfl (hr := m3) (k := ?_) | (refine gdRD rfl rfl (fun _ => ?_) (fun _ => ?_) <;> try (exfalso; omega)) | (refine gdRN rfl rfl (fun _ => ?_) (fun _ => ?_) <;> try (exfalso; omega)) | refine gdR rfl rfl (fun _ => ?_) (fun _ => ?_))
    | (show retPost _ _ _ _ _; first | refine finF true rfl rfl sc ?_ | refine finF false rfl rfl sc ?_ | refine finC false rfl rfl sc sc ?_ | refine finN rfl rfl sc ?_ | refine finL true rfl rfl sc rfl (LeR.cons rfl leL LeR.nil) ?_ | refine finE true rfl rfl sc ?_ | refine finE false rfl rfl sc ?_))
  rfl
end Go.Proofs.YtjjefhbceoeibaaGreat

/-
  Intervals of rational numbers: what holds of the results of the operations. Conditions: as each says.
-/
set_option linter.unusedVariables false
set_option linter.unusedSimpArgs false
namespace Go.Vw
/-- A number lies in an interval. -/
def In (i : I2) (v : Rat) : Prop := i.1 ≤ v ∧ v ≤ i.2
theorem containsI_iff {i : I2} {v : Rat} : containsI i v = true ↔ In i v := by unfold containsI In; simp
theorem withinI_iff {i j : I2} : withinI i j = true ↔ j.1 ≤ i.1 ∧ i.2 ≤ j.2 := by unfold withinI; simp
theorem withinI_of {i j : I2} (h1 : In j i.1) (h2 : In j i.2) : withinI i j = true := withinI_iff.2 ⟨h1.1, h2.2⟩
theorem In.mono {i j : I2} {v : Rat} (h : withinI i j = true) (hv : In i v) : In j v := by
  have := withinI_iff.1 h
  exact ⟨Rat.le_trans this.1 hv.1, Rat.le_trans hv.2 this.2⟩
theorem foldl_minQ_le : ∀ (l : List Rat) (m : Rat), l.foldl minQ m ≤ m ∧ ∀ x ∈ l, l.foldl minQ m ≤ x
  | [], m => ⟨Rat.le_refl, by simp⟩
  | x :: l, m => by
    have h := foldl_minQ_le l (minQ m x)
    have h2 := minQ_le m x
    refine ⟨Rat.le_trans h.1 h2.1, ?_⟩
    intro y hy
    rcases List.mem_cons.1 hy with e | e
    · rw [e]; exact Rat.le_trans h.1 h2.2
    · exact h.2 y e
theorem foldl_maxQ_le : ∀ (l : List Rat) (m : Rat), m ≤ l.foldl maxQ m ∧ ∀ x ∈ l, x ≤ l.foldl maxQ m
  | [], m => ⟨Rat.le_refl, by simp⟩
  | x :: l, m => by
    have h := foldl_maxQ_le l (maxQ m x)
    have h2 := maxQ_le m x
    refine ⟨Rat.le_trans h2.1 h.1, ?_⟩
    intro y hy
    rcases List.mem_cons.1 hy with e | e
    · rw [e]; exact Rat.le_trans h2.2 h.1
    · exact h.2 y e
theorem minQ_mem (x y : Rat) : minQ x y = x ∨ minQ x y = y := by unfold minQ; split <;> simp
theorem maxQ_mem (x y : Rat) : maxQ x y = x ∨ maxQ x y = y := by unfold maxQ; split <;> simp
theorem foldl_minQ_mem : ∀ (l : List Rat) (m : Rat), l.foldl minQ m ∈ m :: l
  | [], m => by simp
  | x :: l, m => by
    have h := foldl_minQ_mem l (minQ m x)
    rw [List.foldl_cons]
    rcases List.mem_cons.1 h with e | e
    · rw [e]; rcases minQ_mem m x with e | e <;> rw [e] <;> simp
    · simp [e]
theorem foldl_maxQ_mem : ∀ (l : List Rat) (m : Rat), l.foldl maxQ m ∈ m :: l
  | [], m => by simp
  | x :: l, m => by
    have h := foldl_maxQ_mem l (maxQ m x)
    rw [List.foldl_cons]
    rcases List.mem_cons.1 h with e | e
    · rw [e]; rcases maxQ_mem m x with e | e <;> rw [e] <;> simp
    · simp [e]
theorem hullL_in {x : Rat} {l : List Rat} : ∀ v ∈ x :: l, In (hullL x l) v := by
  intro v hv
  have h1 := foldl_minQ_le l x
  have h2 := foldl_maxQ_le l x
  rcases List.mem_cons.1 hv with e | e
  · rw [e]; exact ⟨h1.1, h2.1⟩
  · exact ⟨h1.2 v e, h2.2 v e⟩
theorem hullL_lo (x : Rat) (l : List Rat) : (hullL x l).1 ∈ x :: l := foldl_minQ_mem l x
theorem hullL_hi (x : Rat) (l : List Rat) : (hullL x l).2 ∈ x :: l := foldl_maxQ_mem l x
theorem hullL_inc (x : Rat) (l : List Rat) : (hullL x l).1 ≤ (hullL x l).2 := hullL_le l x x Rat.le_refl
theorem mulR {a b c : Rat} (h : a ≤ b) (hc : 0 ≤ c) : a * c ≤ b * c := Rat.mul_le_mul_of_nonneg_right h hc
theorem mulRn {a b c : Rat} (h : a ≤ b) (hc : c ≤ 0) : b * c ≤ a * c := by
  have := Rat.mul_le_mul_of_nonneg_right (c := -c) h (by grind)
  grind
/-- A product lies between the products with the ends. -/
theorem lin {m n x y a b : Rat} (h1 : a ≤ x) (h2 : x ≤ b) (ha : m ≤ a * y ∧ a * y ≤ n) (hb : m ≤ b * y ∧ b * y ≤ n) : m ≤ x * y ∧ x * y ≤ n := by
  rcases Rat.le_total (a := 0) (b := y) with h | h
  · exact ⟨Rat.le_trans ha.1 (mulR h1 h), Rat.le_trans (mulR h2 h) hb.2⟩
  · exact ⟨Rat.le_trans hb.1 (mulRn h2 h), Rat.le_trans (mulRn h1 h) ha.2⟩
theorem in_mulI {a b : I2} {x y : Rat} (hx : In a x) (hy : In b y) : In (mulI a b) (x * y) := by
  have hc : ∀ v ∈ [a.1 * b.1, a.1 * b.2, a.2 * b.1, a.2 * b.2], In (mulI a b) v := hullL_in
  have c1 := hc (a.1 * b.1) (by simp)
  have c2 := hc (a.1 * b.2) (by simp)
  have c3 := hc (a.2 * b.1) (by simp)
  have c4 := hc (a.2 * b.2) (by simp)
  unfold In at *
  have k1 := lin hy.1 hy.2 (y := a.1) (m := (mulI a b).1) (n := (mulI a b).2) (by rw [Rat.mul_comm]; exact c1) (by rw [Rat.mul_comm]; exact c2)
  have k2 := lin hy.1 hy.2 (y := a.2) (m := (mulI a b).1) (n := (mulI a b).2) (by rw [Rat.mul_comm]; exact c3) (by rw [Rat.mul_comm]; exact c4)
  exact lin hx.1 hx.2 (by rw [Rat.mul_comm]; exact k1) (by rw [Rat.mul_comm]; exact k2)
theorem in_lo {a : I2} (h : a.1 ≤ a.2) : In a a.1 := ⟨Rat.le_refl, h⟩
theorem in_hi {a : I2} (h : a.1 ≤ a.2) : In a a.2 := ⟨h, Rat.le_refl⟩
theorem mulI_ends {a b : I2} (ha : a.1 ≤ a.2) (hb : b.1 ≤ b.2) : (∃ x y, In a x ∧ In b y ∧ (mulI a b).1 = x * y) ∧ (∃ x y, In a x ∧ In b y ∧ (mulI a b).2 = x * y) := by
  have key : ∀ v ∈ [a.1 * b.1, a.1 * b.2, a.2 * b.1, a.2 * b.2], ∃ x y, In a x ∧ In b y ∧ v = x * y := by
    intro v hv
    simp only [List.mem_cons, List.not_mem_nil, or_false] at hv
    rcases hv with h | h | h | h
    · exact ⟨_, _, in_lo ha, in_lo hb, h⟩
    · exact ⟨_, _, in_lo ha, in_hi hb, h⟩
    · exact ⟨_, _, in_hi ha, in_lo hb, h⟩
    · exact ⟨_, _, in_hi ha, in_hi hb, h⟩
  exact ⟨key _ (hullL_lo _ _), key _ (hullL_hi _ _)⟩
theorem mulI_le (a b : I2) : (mulI a b).1 ≤ (mulI a b).2 := hullL_inc _ _
theorem within_mul {a b c : I2} (ha : a.1 ≤ a.2) (hb : b.1 ≤ b.2) (h : withinI a c = true) : withinI (mulI a b) (mulI c b) = true := by
  obtain ⟨⟨x, y, hx, hy, e1⟩, ⟨u, v, hu, hv, e2⟩⟩ := mulI_ends ha hb
  refine withinI_of ?_ ?_
  · rw [e1]; exact in_mulI (hx.mono h) hy
  · rw [e2]; exact in_mulI (hu.mono h) hv
theorem within_add {a b c : I2} (h : withinI a c = true) : withinI (addI a b) (addI c b) = true := by
  have := withinI_iff.1 h
  refine withinI_iff.2 ?_
  unfold addI
  constructor <;> simp only <;> grind
theorem within_sub {a b c : I2} (h : withinI a c = true) : withinI (subI a b) (subI c b) = true := by
  have := withinI_iff.1 h
  refine withinI_iff.2 ?_
  unfold subI
  constructor <;> simp only <;> grind
theorem addI_le {a b : I2} (ha : a.1 ≤ a.2) (hb : b.1 ≤ b.2) : (addI a b).1 ≤ (addI a b).2 := by unfold addI; simp only; grind
theorem subI_le {a b : I2} (ha : a.1 ≤ a.2) (hb : b.1 ≤ b.2) : (subI a b).1 ≤ (subI a b).2 := by unfold subI; simp only; grind
theorem in_add {a b : I2} {x y : Rat} (hx : In a x) (hy : In b y) : In (addI a b) (x + y) := by
  unfold In addI at *; simp only; constructor <;> grind
theorem in_sub {a b : I2} {x y : Rat} (hx : In a x) (hy : In b y) : In (subI a b) (x - y) := by
  unfold In subI at *; simp only; constructor <;> grind
theorem sqI_ends {a : I2} (ha : a.1 ≤ a.2) : (∃ x, In a x ∧ (sqI a).1 = x * x) ∧ (∃ x, In a x ∧ (sqI a).2 = x * x) := by
  have key : ∀ v ∈ [a.1 * a.1, a.2 * a.2], ∃ x, In a x ∧ v = x * x := by
    intro v hv
    simp only [List.mem_cons, List.not_mem_nil, or_false] at hv
    rcases hv with h | h
    · exact ⟨_, in_lo ha, h⟩
    · exact ⟨_, in_hi ha, h⟩
  unfold sqI
  split
  · rename_i h
    exact ⟨⟨0, containsI_iff.1 h, by show (0 : Rat) = 0 * 0; rw [Rat.mul_zero]⟩, key _ (hullL_hi _ _)⟩
  · exact ⟨key _ (hullL_lo _ _), key _ (hullL_hi _ _)⟩
theorem sq_le {x y : Rat} (hx : 0 ≤ x) (h : x ≤ y) : x * x ≤ y * y := by
  have h1 := mulR h hx
  have h2 := mulR h (Rat.le_trans hx h)
  have h3 := Rat.mul_comm x y
  grind
theorem sq_le_neg {x y : Rat} (hx : x ≤ 0) (h : y ≤ x) : x * x ≤ y * y := by
  have := sq_le (x := -x) (y := -y) (by grind) (by grind)
  grind
theorem in_sqI {a : I2} {x : Rat} (hx : In a x) : In (sqI a) (x * x) := by
  have hc : ∀ v ∈ [a.1 * a.1, a.2 * a.2], In (hullL (a.1 * a.1) [a.2 * a.2]) v := hullL_in
  have c1 := hc (a.1 * a.1) (by simp)
  have c2 := hc (a.2 * a.2) (by simp)
  have hup : x * x ≤ (hullL (a.1 * a.1) [a.2 * a.2]).2 := by
    rcases Rat.le_total (a := 0) (b := x) with h | h
    · exact Rat.le_trans (sq_le h hx.2) c2.2
    · exact Rat.le_trans (sq_le_neg h hx.1) c1.2
  unfold sqI
  split
  · exact ⟨square_nonneg x, hup⟩
  · rename_i h
    refine ⟨?_, hup⟩
    have hn : ¬ In a 0 := fun hc => h (containsI_iff.2 hc)
    rcases Rat.le_total (a := 0) (b := a.1) with h0 | h0
    · exact Rat.le_trans c1.1 (sq_le h0 hx.1)
    · have h2 : a.2 ≤ 0 := by
        rcases Rat.le_total (a := a.2) (b := 0) with h3 | h3
        · exact h3
        · exact absurd ⟨h0, h3⟩ hn
      exact Rat.le_trans c2.1 (sq_le_neg h2 hx.2)
theorem sqI_le {a : I2} (ha : a.1 ≤ a.2) : (sqI a).1 ≤ (sqI a).2 := by
  obtain ⟨_, ⟨x, hx, e⟩⟩ := sqI_ends ha
  rw [e]; exact (in_sqI hx).1
theorem within_sq {a c : I2} (ha : a.1 ≤ a.2) (h : withinI a c = true) : withinI (sqI a) (sqI c) = true := by
  obtain ⟨⟨x, hx, e1⟩, ⟨u, hu, e2⟩⟩ := sqI_ends ha
  refine withinI_of ?_ ?_
  · rw [e1]; exact in_sqI (hx.mono h)
  · rw [e2]; exact in_sqI (hu.mono h)
theorem within_sq_mul {a : I2} (ha : a.1 ≤ a.2) : withinI (sqI a) (mulI a a) = true := by
  obtain ⟨⟨x, hx, e1⟩, ⟨u, hu, e2⟩⟩ := sqI_ends ha
  refine withinI_of ?_ ?_
  · rw [e1]; exact in_mulI hx hx
  · rw [e2]; exact in_mulI hu hu
theorem inv_anti {x y : Rat} (hx : 0 < x) (h : x ≤ y) : 1 / y ≤ 1 / x := by
  have hy : 0 < y := by grind
  have hxi : 0 < x⁻¹ := Rat.inv_pos.2 hx
  have hyi : 0 < y⁻¹ := Rat.inv_pos.2 hy
  have h1 := mulR (mulR h (Rat.le_of_lt hxi)) (Rat.le_of_lt hyi)
  have e1 : x * x⁻¹ = 1 := Rat.mul_inv_cancel x (Rat.ne_of_gt hx)
  have e2 : y * y⁻¹ = 1 := Rat.mul_inv_cancel y (Rat.ne_of_gt hy)
  rw [Rat.div_def, Rat.div_def, Rat.one_mul, Rat.one_mul]
  rw [e1, Rat.one_mul, Rat.mul_assoc, Rat.mul_comm x⁻¹, ← Rat.mul_assoc, e2, Rat.one_mul] at h1
  exact h1
theorem div_neg' (x : Rat) : 1 / (-x) = -(1 / x) := by
  rw [Rat.div_def, Rat.div_def, Rat.one_mul, Rat.one_mul]
  by_cases h : x = 0
  · rw [h]; simp
  · apply Rat.inv_eq_of_mul_eq_one
    have := Rat.mul_inv_cancel x h
    grind
theorem in_inv {b : I2} {y : Rat} (h0 : containsI b 0 = false) (hy : In b y) : y ≠ 0 ∧ In (1 / b.2, 1 / b.1) (1 / y) := by
  have hn : ¬ In b 0 := fun hc => by rw [containsI_iff.2 hc] at h0; exact absurd h0 (by decide)
  rcases Rat.le_total (a := b.1) (b := 0) with h | h
  · have h2 : b.2 < 0 := by
      rcases Rat.le_total (a := 0) (b := b.2) with h3 | h3
      · exact absurd ⟨h, h3⟩ hn
      · refine Rat.lt_of_le_of_ne h3 (fun e => hn ⟨h, by rw [e]; exact Rat.le_refl⟩)
    have hy0 : y < 0 := by have := hy.2; grind
    have k1 := inv_anti (x := -b.2) (y := -y) (by grind) (by have := hy.2; grind)
    have k2 := inv_anti (x := -y) (y := -b.1) (by grind) (by have := hy.1; grind)
    rw [div_neg', div_neg'] at k1 k2
    exact ⟨Rat.ne_of_lt hy0, by show 1 / b.2 ≤ 1 / y; grind, by show 1 / y ≤ 1 / b.1; grind⟩
  · have h1 : 0 < b.1 := by
      refine Rat.lt_of_le_of_ne h (fun e => hn ⟨by rw [← e]; exact Rat.le_refl, ?_⟩)
      exact Rat.le_trans h (Rat.le_trans hy.1 hy.2)
    have hy0 : 0 < y := by have := hy.1; grind
    exact ⟨Rat.ne_of_gt hy0, inv_anti hy0 hy.2, inv_anti h1 hy.1⟩
theorem in_div {a b : I2} {x y : Rat} (h0 : containsI b 0 = false) (hx : In a x) (hy : In b y) : In (divI a b) (x / y) := by
  have h := in_mulI hx (in_inv h0 hy).2
  rw [show x * (1 / y) = x / y by rw [Rat.div_def, Rat.div_def, Rat.one_mul]] at h
  exact h
theorem hullI_le (a b : I2) : (hullI a b).1 ≤ (hullI a b).2 := hullL_inc _ _
theorem within_hull (a b : I2) : withinI a (hullI a b) = true ∧ withinI b (hullI a b) = true := by
  have hc : ∀ v ∈ [a.1, a.2, b.1, b.2], In (hullI a b) v := hullL_in
  exact ⟨withinI_of (hc _ (by simp)) (hc _ (by simp)), withinI_of (hc _ (by simp)) (hc _ (by simp))⟩
theorem meetI_some {a b m : I2} (h : meetI a b = some m) : m.1 ≤ m.2 ∧ withinI m a = true ∧ withinI m b = true ∧ m = (maxQ a.1 b.1, minQ a.2 b.2) := by
  unfold meetI at h
  split at h
  · exact absurd h (by simp)
  · rename_i hh
    have e := (Option.some.inj h).symm
    subst e
    have h1 := maxQ_le a.1 b.1
    have h2 := minQ_le a.2 b.2
    exact ⟨Rat.not_lt.1 hh, withinI_iff.2 ⟨h1.1, h2.1⟩, withinI_iff.2 ⟨h1.2, h2.2⟩, rfl⟩
theorem meetI_iff (a b : I2) (v : Rat) : (containsI a v && containsI b v) = (match meetI a b with | none => false | some m => containsI m v) := by
  rw [Bool.eq_iff_iff, Bool.and_eq_true, containsI_iff, containsI_iff]
  have h1 := maxQ_le a.1 b.1
  have h2 := minQ_le a.2 b.2
  have e1 := maxQ_mem a.1 b.1
  have e2 := minQ_mem a.2 b.2
  cases hm : meetI a b with
  | none =>
    simp only [Bool.false_eq_true, iff_false]
    intro ⟨p, q⟩
    unfold meetI at hm
    split at hm
    · rename_i hh
      have k1 : maxQ a.1 b.1 ≤ v := by rcases e1 with e | e <;> rw [e]; exact p.1; exact q.1
      have k2 : v ≤ minQ a.2 b.2 := by rcases e2 with e | e <;> rw [e]; exact p.2; exact q.2
      exact absurd (Rat.le_trans k1 k2) (Rat.not_le.2 hh)
    · exact absurd hm (by simp)
  | some m =>
    have hs := meetI_some hm
    simp only
    rw [containsI_iff]
    constructor
    · intro ⟨p, q⟩
      rw [hs.2.2.2]
      exact ⟨by show maxQ a.1 b.1 ≤ v; rcases e1 with e | e <;> rw [e]; exact p.1; exact q.1, by show v ≤ minQ a.2 b.2; rcases e2 with e | e <;> rw [e]; exact p.2; exact q.2⟩
    · intro p
      exact ⟨p.mono hs.2.1, p.mono hs.2.2.1⟩
theorem sqI_zero {a : I2} (ha : a.1 ≤ a.2) : decide ((sqI a).1 = 0) = containsI a 0 := by
  cases hc : containsI a 0 with
  | true => unfold sqI; rw [hc]; simp
  | false =>
    rw [decide_eq_false_iff_not]
    intro h
    obtain ⟨⟨x, hx, e⟩, _⟩ := sqI_ends ha
    rw [e] at h
    have h0 : x = 0 := by rcases Rat.mul_eq_zero.1 h with h | h <;> exact h
    rw [h0] at hx
    rw [containsI_iff.2 hx] at hc
    exact absurd hc (by decide)
end Go.Vw

/-
  Square roots in intervals: what holds of the interval of a root. Conditions: as each says.
-/
set_option linter.unusedVariables false
set_option linter.unusedSimpArgs false
namespace Go.Vw
theorem twoQ_eq (n : Nat) : twoQ n = ((2 ^ n : Nat) : Rat) := rfl
theorem twoQ_pos (n : Nat) : 0 < twoQ n := by
  have h := twoQ_ne n
  have h2 : (0 : Rat) ≤ twoQ n := by
    rw [twoQ_eq]
    exact Rat.natCast_nonneg
  grind
theorem rt_self_le (m : Nat) : rt m ≤ m := rt_le (by rw [Nat.mul_add, Nat.add_mul]; have := Nat.zero_le (m * m); omega)
theorem two_len {n k : Nat} (h : n / 32 + 1 < k) : (limbs (2 ^ n)).length < k := by
  rw [← limbs_two n, List.length_set, List.length_replicate]; exact h
theorem okQ_two {n : Nat} (h : n ≤ 128) : okQ 10 (twoQ n) := by
  refine ⟨?_, ?_⟩
  · have e : (twoQ n).num.natAbs = 2 ^ n := by unfold twoQ; rw [Rat.num_intCast]; exact Int.natAbs_natCast _
    rw [e]
    exact two_len (by omega)
  · have e : (twoQ n).den = 1 := by unfold twoQ; exact Rat.den_intCast _
    rw [e, limbs_one]; decide
theorem rq_two (n : Nat) : rq (twoQ n) = (false, limbs (2 ^ n), []) := by
  have e : (twoQ n).num = ((2 ^ n : Nat) : Int) := by unfold twoQ; exact Rat.num_intCast _
  have e2 : (twoQ n).den = 1 := by unfold twoQ; exact Rat.den_intCast _
  unfold rq
  rw [e, e2, Int.natAbs_natCast, decide_eq_false (Int.not_lt.2 (Int.natCast_nonneg _))]
  rfl
theorem rq_natI (m : Nat) : rq (((m : Nat) : Int) : Rat) = (false, limbs m, []) := by
  unfold rq
  rw [Rat.num_intCast, Rat.den_intCast, Int.natAbs_natCast, decide_eq_false (by omega)]
  rfl
theorem okQ_natI {m k : Nat} (h : (limbs m).length < k) (hk : 1 < k) : okQ k (((m : Nat) : Int) : Rat) := by
  refine ⟨?_, ?_⟩
  · rw [Rat.num_intCast, Int.natAbs_natCast]; exact h
  · rw [Rat.den_intCast, limbs_one]; exact hk
theorem floor_len {q : Rat} {k : Nat} (h : okQ k q) : (limbs q.floor.natAbs).length < k := by
  rw [Rat.floor_def]
  exact Nat.lt_of_le_of_lt (limbs_len_mono (Int.natAbs_ediv_le_natAbs _ _)) h.1
theorem rootN_len {v : Rat} {n k : Nat} (h : okQ k v) (hn : n ≤ 128) : (limbs (rootN v n)).length < k + 20 := by
  unfold rootN
  exact Nat.lt_of_le_of_lt (limbs_len_mono (rt_self_le _)) (floor_len (h.mul ((okQ_two hn).mul (okQ_two hn))))
theorem mulL {a b c : Rat} (h : a ≤ b) (hc : 0 ≤ c) : c * a ≤ c * b := Rat.mul_le_mul_of_nonneg_left h hc
theorem div_mul_cancel' {a b : Rat} (h : b ≠ 0) : a / b * b = a := by rw [Rat.div_def, Rat.mul_assoc, Rat.inv_mul_cancel b h, Rat.mul_one]
theorem root_spec {v : Rat} (hv : 0 ≤ v) (n : Nat) : 0 ≤ rootLo v n ∧ rootLo v n * rootLo v n ≤ v ∧ v < (rootLo v n + 1 / twoQ n) * (rootLo v n + 1 / twoQ n) := by
  have ht := twoQ_pos n
  have hne := twoQ_ne n
  have h0 : (0 : Rat) ≤ v * (twoQ n * twoQ n) := Rat.mul_nonneg hv (Rat.mul_nonneg (Rat.le_of_lt ht) (Rat.le_of_lt ht))
  have f1 := Rat.floor_le (v * (twoQ n * twoQ n))
  have f2 := Rat.lt_floor_add_one (v * (twoQ n * twoQ n))
  rw [Rat.intCast_add] at f2
  have f0 : 0 ≤ (v * (twoQ n * twoQ n)).floor := Rat.le_floor_iff.2 h0
  have hi := rootHi_eq v n
  unfold rootLo rootN at *
  generalize (v * (twoQ n * twoQ n)).floor = f at *
  obtain ⟨m, rfl⟩ := Int.eq_ofNat_of_zero_le f0
  rw [Int.natAbs_natCast] at *
  have hs := rt_spec m
  generalize rt m = r at *
  generalize twoQ n = t at *
  have s1 : ((r : Nat) : Rat) * ((r : Nat) : Rat) ≤ ((m : Nat) : Rat) := by rw [← Rat.natCast_mul]; exact Rat.natCast_le_natCast.2 hs.1
  have s2 : ((m : Nat) : Rat) + 1 ≤ (((r : Nat) : Rat) + 1) * (((r : Nat) : Rat) + 1) := by
    have : ((m + 1 : Nat) : Rat) ≤ (((r + 1) * (r + 1) : Nat) : Rat) := Rat.natCast_le_natCast.2 hs.2
    rw [Rat.natCast_mul, Rat.natCast_add, Rat.natCast_add] at this
    exact this
  have s0 : (0 : Rat) ≤ ((r : Nat) : Rat) := Rat.natCast_nonneg
  rw [Rat.intCast_natCast] at *
  generalize ((r : Nat) : Rat) = x at *
  generalize ((m : Nat) : Rat) = y at *
  have e1 : x / t * t = x := div_mul_cancel' hne
  have e2 : 1 / t * t = 1 := div_mul_cancel' hne
  have tt : 0 < t * t := Rat.mul_pos ht ht
  generalize x / t = a at *
  generalize 1 / t = e at *
  have q1 : (a * a) * (t * t) = x * x := by rw [← e1]; grind
  have q2 : ((a + e) * (a + e)) * (t * t) = (x + 1) * (x + 1) := by rw [← e1, ← e2]; grind
  have f2' : v * (t * t) < y + 1 := f2
  refine ⟨?_, ?_, ?_⟩
  · refine Rat.le_of_mul_le_mul_right (c := t) ?_ ht
    rw [e1, Rat.zero_mul]; exact s0
  · refine Rat.le_of_mul_le_mul_right (c := t * t) ?_ tt
    rw [q1]; exact Rat.le_trans s1 f1
  · refine Rat.lt_of_mul_lt_mul_right (c := t * t) ?_ (Rat.le_of_lt tt)
    rw [q2]; grind
theorem rootI_le {v : Rat} (n : Nat) : (rootI v n).1 ≤ (rootI v n).2 := by
  unfold rootI
  split
  · exact Rat.le_refl
  · have ht := twoQ_pos n
    have : 0 ≤ 1 / twoQ n := by rw [Rat.div_def, Rat.one_mul]; exact Rat.le_of_lt (Rat.inv_pos.2 ht)
    show rootLo v n ≤ rootLo v n + 1 / twoQ n
    grind
theorem rootI_spec {v : Rat} (hv : 0 ≤ v) (n : Nat) : 0 ≤ (rootI v n).1 ∧ containsI (sqI (rootI v n)) v = true ∧ (((rootI v n).2 - (rootI v n).1) * twoQ n = 0 → (rootI v n).1 * (rootI v n).1 = v) ∧ (((rootI v n).2 - (rootI v n).1) * twoQ n ≠ 0 → ((rootI v n).2 - (rootI v n).1) * twoQ n = 1 ∧ v < (rootI v n).2 * (rootI v n).2 ∧ (rootI v n).1 * (rootI v n).1 < v) := by
  obtain ⟨h0, h1, h2⟩ := root_spec hv n
  have hle := rootI_le (v := v) n
  have ht := twoQ_pos n
  have hne := twoQ_ne n
  have c1 := in_sqI (in_lo hle)
  have c2 := in_sqI (in_hi hle)
  have e2 : 1 / twoQ n * twoQ n = 1 := div_mul_cancel' hne
  unfold rootI at *
  split
  · rename_i h
    rw [if_pos h] at *
    simp only at *
    refine ⟨h0, ?_, fun _ => h, fun hc => ?_⟩
    · rw [h] at c1; exact containsI_iff.2 c1
    · exact absurd (by grind) hc
  · rename_i h
    rw [if_neg h] at *
    simp only at *
    have hlt : rootLo v n * rootLo v n < v := Rat.lt_of_le_of_ne h1 h
    have ew : (rootLo v n + 1 / twoQ n - rootLo v n) * twoQ n = 1 := by rw [← e2]; grind
    refine ⟨h0, containsI_iff.2 ⟨Rat.le_trans c1.1 (Rat.le_of_lt hlt), Rat.le_trans (Rat.le_of_lt h2) c2.2⟩, fun hc => ?_, fun _ => ⟨ew, h2, hlt⟩⟩
    rw [ew] at hc
    exact absurd hc (by decide)
end Go.Vw

/-
  A variable's data in another form; reading a literal as a list. Conditions: as each says.
-/
set_option linter.unusedVariables false
set_option linter.unusedSimpArgs false
namespace Go.Vw
theorem awp_cast {X : Ctx} {c : Code} {Q : Exit → St → Prop} {s : St} (t : Nat) {x : D} (y : D) (ht : s.tmps t = .d x) (hle : LeD x y) (h : awp X c Q (s.put (some t) (.d y))) : awp X c Q s := fun io F a w hs => by
  refine h io F a w ⟨hs.kept, fun u => ?_, hs.nt, hs.df, hs.bl, hs.inj, hs.ff, hs.f0, hs.st⟩
  rw [put_keys]
  simp only [St.put]
  cases hb : Nat.beq u t with
  | true =>
    have := Nat.eq_of_beq_eq_true hb
    subst this
    have hv := hs.tm u
    rw [ht] at hv
    simp only [cond_true, VR] at hv ⊢
    exact hle F w _ hv
  | false => simpa using hs.tm u
end Go.Vw

set_option linter.unusedVariables false
set_option linter.unusedSimpArgs false
namespace Go.Proofs.YtjjefhbceoeibaaGreat
open Go.Vw
attribute [local irreducible] awp awpL awpR

theorem ref04_Two (n : Nat) (h : n ≤ 128) : Ret Tryz.prog 23 [.int .i64 n] (· = qD (twoQ n)) := by
  show Ret Tryz.prog 23 [.int .i64 n] (· = rD (rq (twoQ n)))
  rw [rq_two]
  have h1 : limbs 1 = [1] := limbs_one
  have h2 : limbs 2 = [2] := limbs_small (by decide) (by decide)
  refine ret_of_awp tab Tryz.func23 rfl rfl (Nat.le_of_ble_eq_true rfl) (fun w0 F0 => ?_)
  repeat' (first
    | (show awpL _ _ _ _ _; first | refine goL ?_ | (refine gdLD rfl rfl (fun _ => ?_) (fun _ => ?_) <;> try (exfalso; omega)) | (refine gdLN rfl rfl (fun _ => ?_) (fun _ => ?_) <;> try (exfalso; omega)) | refine gdL rfl rfl (fun _ => ?_) (fun _ => ?_))
    | (show awp _ _ _ _; first | refine goA ?_ | (refine awp_condD rfl (fun _ => ?_) (fun _ => ?_) <;> try (exfalso; omega)) | (refine awp_condN rfl (fun _ => ?_) (fun _ => ?_) <;> try (exfalso; omega)) | refine awp_cond rfl (fun _ => ?_) (fun _ => ?_))
    | (show andThen _ _ _ _; first | refine goN ?_)
    | (show inBlock _ _ _ _; first | refine goB ?_)
    | (show awpR _ _ _ _ _ _; first | refine goR ?_ | (refine gdRD rfl rfl (fun _ => ?_) (fun _ => ?_) <;> try (exfalso; omega)) | (refine gdRN rfl rfl (fun _ => ?_) (fun _ => ?_) <;> try (exfalso; omega)) | refine gdR rfl rfl (fun _ => ?_) (fun _ => ?_))
    | (show retPost _ _ _ _ _; first | refine finF true rfl rfl sc ?_ | refine finF false rfl rfl sc ?_ | refine finC false rfl rfl sc sc ?_ | refine finN rfl rfl sc ?_ | refine finL true rfl rfl sc rfl (LeR.cons rfl leL LeR.nil) ?_ | refine finE true rfl rfl sc ?_ | refine finE false rfl rfl sc ?_))
  refine awp_cast 3 (u32s [1]) rfl (LeD.lit rfl (LeR.cons rfl leL LeR.nil)) ?_
  refine awp_loop1 (fun (i : Nat) => ([(0, .d (.int .i64 n)), (2, .ptr 2 0), (3, .d (u32s (limbs (2 ^ i)))), (4, .d (.int .i64 i))], [(2, .box 26 zR3)])) (fun i => i ≤ n) (fun i => n - i) 0 (by omega) ⟨rfl, rfl, by rw [Nat.pow_zero, h1]; rfl, rfl, rfl⟩ ⟨rfl, trivial⟩ (fun i hi => ?_)
  by_cases h3 : i < n
  · have l1 := two_len (n := i) (k := 10) (by omega)
    have m1 := ref01_MulN (2 ^ i) 2 (by omega) (by rw [h2]; decide)
    rw [← Nat.pow_succ, h2] at m1
    clear l1
    obtain ⟨y, hy⟩ : ∃ y, 2 ^ (i + 1) = y := ⟨_, rfl⟩
    rw [hy] at m1
    repeat' (first
      | (show awpL _ _ _ _ _; first | refine goL ?_ | refine cl 76 tt rfl rfl rfl (hr := m1) (k := ?_) | (refine gdLD rfl rfl (fun _ => ?_) (fun _ => ?_) <;> try (exfalso; omega)) | (refine gdLN rfl rfl (fun _ => ?_) (fun _ => ?_) <;> try (exfalso; omega)) | refine gdL rfl rfl (fun _ => ?_) (fun _ => ?_))
      | (show awp _ _ _ _; first | refine goA ?_ | (refine awp_condD rfl (fun _ => ?_) (fun _ => ?_) <;> try (exfalso; omega)) | (refine awp_condN rfl (fun _ => ?_) (fun _ => ?_) <;> try (exfalso; omega)) | refine awp_cond rfl (fun _ => ?_) (fun _ => ?_))
      | (show andThen _ _ _ _; first | refine goN ?_)
      | (show inBlock _ _ _ _; first | refine goB ?_)
      | (show awpR _ _ _ _ _ _; first | refine goR ?_ | refine clR 76 tt rfl rfl rfl (hr := m1) (k := ?_) | (refine gdRD rfl rfl (fun _ => ?_) (fun _ => ?_) <;> try (exfalso; omega)) | (refine gdRN rfl rfl (fun _ => ?_) (fun _ => ?_) <;> try (exfalso; omega)) | refine gdR rfl rfl (fun _ => ?_) (fun _ => ?_))
      | (show retPost _ _ _ _ _; first | refine finF true rfl rfl sc ?_ | refine finF false rfl rfl sc ?_ | refine finC false rfl rfl sc sc ?_ | refine finN rfl rfl sc ?_ | refine finL true rfl rfl sc rfl (LeR.cons rfl leL LeR.nil) ?_ | refine finE true rfl rfl sc ?_ | refine finE false rfl rfl sc ?_))
    exact ⟨i + 1, by omega, by omega, ⟨rfl, rfl, by rw [hy]; rfl, iv (by omega), rfl⟩, rfl, trivial⟩
  · have : i = n := by omega
    subst this
    repeat' (first
      | (show awpL _ _ _ _ _; first | refine goL ?_ | (refine gdLD rfl rfl (fun _ => ?_) (fun _ => ?_) <;> try (exfalso; omega)) | (refine gdLN rfl rfl (fun _ => ?_) (fun _ => ?_) <;> try (exfalso; omega)) | refine gdL rfl rfl (fun _ => ?_) (fun _ => ?_))
      | (show awp _ _ _ _; first | refine goA ?_ | (refine awp_condD rfl (fun _ => ?_) (fun _ => ?_) <;> try (exfalso; omega)) | (refine awp_condN rfl (fun _ => ?_) (fun _ => ?_) <;> try (exfalso; omega)) | refine awp_cond rfl (fun _ => ?_) (fun _ => ?_))
      | (show andThen _ _ _ _; first | refine goN ?_)
      | (show inBlock _ _ _ _; first | refine goB ?_)
      | (show awpR _ _ _ _ _ _; first | refine goR ?_ | (refine gdRD rfl rfl (fun _ => ?_) (fun _ => ?_) <;> try (exfalso; omega)) | (refine gdRN rfl rfl (fun _ => ?_) (fun _ => ?_) <;> try (exfalso; omega)) | refine gdR rfl rfl (fun _ => ?_) (fun _ => ?_))
      | (show retPost _ _ _ _ _; first | refine finF true rfl rfl sc ?_ | refine finF false rfl rfl sc ?_ | refine finC false rfl rfl sc sc ?_ | refine finN rfl rfl sc ?_ | refine finL true rfl rfl sc rfl (LeR.cons rfl leL LeR.nil) ?_ | refine finA true rfl rfl sc ?_ | refine finA false rfl rfl sc ?_ | refine finE true rfl rfl sc ?_ | refine finE false rfl rfl sc ?_))
    exact leL
theorem ref04_RootN (v : R3) (n : Nat) (hn : n ≤ 128) (hv : RatOk v 20000) (h0 : 0 ≤ (rv v).num) : Ret Tryz.prog 34 [rD v, .int .i64 n] (· = .tup [iQ (rootI (rv v) n), .int .i64 0]) := by
  have ov := okQ_rv (k := 20000) hv (by decide)
  have ot := okQ_two hn
  have ott := ot.mul ot
  have om := ov.mul ott
  have hs := ref03_Sign v (hv.up (by decide))
  have hs0 : 0 ≤ (rv v).num.sign := Int.sign_nonneg_iff.2 h0
  have ht := ref04_Two n hn
  have m1 := ref03_MulQ (twoQ n) (twoQ n) (ot.mono (by decide)) (ot.mono (by decide))
  have m2 := ref03_Mul v (rq (twoQ n * twoQ n)) (hv.up (by decide)) (ok_rq (ott.mono (by decide)))
  rw [rv_rq] at m2
  have f1 := ref03_FloorQ (rv v * (twoQ n * twoQ n)) (om.mono (by decide))
  have lf := floor_len om
  have r1 := ref01_RootN (rv v * (twoQ n * twoQ n)).floor.natAbs (by omega)
  rw [show rt (rv v * (twoQ n * twoQ n)).floor.natAbs = rootN (rv v) n from rfl] at r1
  have lr := rootN_len ov hn
  have or := okQ_natI (k := 20020) lr (by decide)
  have q1 := ref03_QuoQ (((rootN (rv v) n : Nat) : Int) : Rat) (twoQ n) (or.mono (by decide)) (ot.mono (by decide)) (twoQ_ne n)
  have olo := or.div ot (twoQ_ne n)
  rw [rq_natI] at q1
  have hhi := rootHi_eq (rv v) n
  have hI : rootI (rv v) n = if rootLo (rv v) n * rootLo (rv v) n = rv v then (rootLo (rv v) n, rootLo (rv v) n) else (rootLo (rv v) n, rootLo (rv v) n + 1 / twoQ n) := rfl
  rw [hI]
  rw [show (((rootN (rv v) n : Nat) : Int) : Rat) / twoQ n = rootLo (rv v) n from rfl] at q1 olo
  have m3 := ref03_MulQ (rootLo (rv v) n) (rootLo (rv v) n) (olo.mono (by decide)) (olo.mono (by decide))
  have c1 := ref03_Compare (rq (rootLo (rv v) n * rootLo (rv v) n)) v (ok_rq ((olo.mul olo).mono (by decide))) (hv.up (by decide))
  rw [rv_rq] at c1
  have z1 := cmpQ_zero (rootLo (rv v) n * rootLo (rv v) n) (rv v)
  have a1 := ref02_AddZ (rootN (rv v) n : Nat) 1 (by rw [Int.natAbs_natCast]; omega) (by show (limbs 1).length < _; rw [limbs_one]; decide)
  have i1 := ref02_FromInt 1 (by decide) (by decide)
  have ln1 := ln_add (rootN (rv v) n) 1
  have l1 := ln_one
  simp only [ln] at ln1 l1
  have q2 := ref03_QuoQ (((rootN (rv v) n + 1 : Nat) : Int) : Rat) (twoQ n) ((okQ_natI (k := 20030) (by omega) (by decide)).mono (by decide)) (ot.mono (by decide)) (twoQ_ne n)
  rw [show ((rootN (rv v) n : Nat) : Int) + 1 = ((rootN (rv v) n + 1 : Nat) : Int) by omega, zD_nat, zD_nat] at a1
  rw [rq_natI, show (((rootN (rv v) n + 1 : Nat) : Int) : Rat) / twoQ n = rootLo (rv v) n + 1 / twoQ n from hhi] at q2
  clear hI hhi ov or olo om ott lf lr ln1 l1
  generalize rootLo (rv v) n + 1 / twoQ n = hi at *
  generalize rootLo (rv v) n = lo at *
  generalize rootN (rv v) n + 1 = rr at *
  generalize rootN (rv v) n = r at *
  generalize (rv v * (twoQ n * twoQ n)).floor = f at *
  generalize rv v * (twoQ n * twoQ n) = vtt at *
  generalize twoQ n * twoQ n = t4 at *
  generalize twoQ n = t at *
  generalize (rv v).num.sign = sg at *
  obtain ⟨c, hc⟩ : ∃ c, cmpQ (lo * lo) (rv v) = c := ⟨_, rfl⟩
  rw [hc] at c1 z1
  by_cases h : lo * lo = rv v
  · have hc0 := z1.2 h
    rw [if_pos h]
    clear z1
    generalize lo * lo = lo2 at *
    refine ret_of_awp tab Tryz.func34 rfl rfl (Nat.le_of_ble_eq_true rfl) (fun w0 F0 => ?_)
    repeat' (first
      | (show awpL _ _ _ _ _; first | refine goL ?_ | refine cl 17 tt rfl rfl rfl (hr := hs) (k := ?_) | refine cl 23 tt rfl rfl rfl (hr := ht) (k := ?_) | refine cl 15 tt rfl rfl rfl (hr := m1) (k := ?_) | refine cl 15 tt rfl rfl rfl (hr := m2) (k := ?_) | refine cl 81 tt rfl rfl rfl (hr := f1) (k := ?_) | refine cl 82 tt rfl rfl rfl (hr := r1) (k := ?_) | refine cl 44 tt rfl rfl rfl (hr := q1) (k := ?_) | refine cl 15 tt rfl rfl rfl (hr := m3) (k := ?_) | refine cl 25 tt rfl rfl rfl (hr := c1) (k := ?_) | (refine gdLD rfl rfl (fun _ => ?_) (fun _ => ?_) <;> try (exfalso; omega)) | (refine gdLN rfl rfl (fun _ => ?_) (fun _ => ?_) <;> try (exfalso; omega)) | refine gdL rfl rfl (fun _ => ?_) (fun _ => ?_))
      | (show awp _ _ _ _; first | refine goA ?_ | refine awp_regK 4 7 [7] mixed (by kernel_rfl) (by kernel_rfl) (by kernel_rfl) ?_ | refine awp_reg 7 4 mixed (by kernel_rfl) (by kernel_rfl) ?_ | refine awp_regK 9 6 [10] mixed (by kernel_rfl) (by kernel_rfl) (by kernel_rfl) ?_ | refine awp_reg 10 4 mixed (by kernel_rfl) (by kernel_rfl) ?_ | (refine awp_condD rfl (fun _ => ?_) (fun _ => ?_) <;> try (exfalso; omega)) | (refine awp_condN rfl (fun _ => ?_) (fun _ => ?_) <;> try (exfalso; omega)) | refine awp_cond rfl (fun _ => ?_) (fun _ => ?_))
      | (show andThen _ _ _ _; first | refine goN ?_)
      | (show inBlock _ _ _ _; first | refine goB ?_)
      | (show awpR _ _ _ _ _ _; first | refine goR ?_ | refine clR 17 tt rfl rfl rfl (hr := hs) (k := ?_) | refine clR 23 tt rfl rfl rfl (hr := ht) (k := ?_) | refine clR 15 tt rfl rfl rfl (hr := m1) (k := ?_) | refine clR 15 tt rfl rfl rfl (hr := m2) (k := ?_) | refine clR 81 tt rfl rfl rfl (hr := f1) (k := ?_) | refine clR 82 tt rfl rfl rfl (hr := r1) (k := ?_) | refine clR 44 tt rfl rfl rfl (hr := q1) (k := ?_) | refine clR 15 tt rfl rfl rfl (hr := m3) (k := ?_) | refine clR 25 tt rfl rfl rfl (hr := c1) (k := ?_) | (refine gdRD rfl rfl (fun _ => ?_) (fun _ => ?_) <;> try (exfalso; omega)) | (refine gdRN rfl rfl (fun _ => ?_) (fun _ => ?_) <;> try (exfalso; omega)) | refine gdR rfl rfl (fun _ => ?_) (fun _ => ?_))
      | (show retPost _ _ _ _ _; first | refine finF true rfl rfl sc ?_ | refine finF false rfl rfl sc ?_ | refine finC false rfl rfl sc sc ?_ | refine finN rfl rfl sc ?_ | refine finL true rfl rfl sc rfl (LeR.cons rfl leL LeR.nil) ?_ | refine finE true rfl rfl sc ?_ | refine finE false rfl rfl sc ?_))
    rfl
  · have hc0 := mt z1.1 h
    rw [if_neg h]
    clear z1
    generalize lo * lo = lo2 at *
    refine ret_of_awp tab Tryz.func34 rfl rfl (Nat.le_of_ble_eq_true rfl) (fun w0 F0 => ?_)
    repeat' (first
      | (show awpL _ _ _ _ _; first | refine goL ?_ | refine cl 17 tt rfl rfl rfl (hr := hs) (k := ?_) | refine cl 23 tt rfl rfl rfl (hr := ht) (k := ?_) | refine cl 15 tt rfl rfl rfl (hr := m1) (k := ?_) | refine cl 15 tt rfl rfl rfl (hr := m2) (k := ?_) | refine cl 81 tt rfl rfl rfl (hr := f1) (k := ?_) | refine cl 82 tt rfl rfl rfl (hr := r1) (k := ?_) | refine cl 44 tt rfl rfl rfl (hr := q1) (k := ?_) | refine cl 15 tt rfl rfl rfl (hr := m3) (k := ?_) | refine cl 25 tt rfl rfl rfl (hr := c1) (k := ?_) | refine cl 78 tt rfl rfl rfl (hr := i1) (k := ?_) | refine cl 83 tt rfl rfl rfl (hr := a1) (k := ?_) | refine cl 44 tt rfl rfl rfl (hr := q2) (k := ?_) | (refine gdLD rfl rfl (fun _ => ?_) (fun _ => ?_) <;> try (exfalso; omega)) | (refine gdLN rfl rfl (fun _ => ?_) (fun _ => ?_) <;> try (exfalso; omega)) | refine gdL rfl rfl (fun _ => ?_) (fun _ => ?_))
      | (show awp _ _ _ _; first | refine goA ?_ | refine awp_regK 4 7 [7] mixed (by kernel_rfl) (by kernel_rfl) (by kernel_rfl) ?_ | refine awp_reg 7 4 mixed (by kernel_rfl) (by kernel_rfl) ?_ | refine awp_regK 9 6 [10] mixed (by kernel_rfl) (by kernel_rfl) (by kernel_rfl) ?_ | refine awp_reg 10 4 mixed (by kernel_rfl) (by kernel_rfl) ?_ | (refine awp_condD rfl (fun _ => ?_) (fun _ => ?_) <;> try (exfalso; omega)) | (refine awp_condN rfl (fun _ => ?_) (fun _ => ?_) <;> try (exfalso; omega)) | refine awp_cond rfl (fun _ => ?_) (fun _ => ?_))
      | (show andThen _ _ _ _; first | refine goN ?_)
      | (show inBlock _ _ _ _; first | refine goB ?_)
      | (show awpR _ _ _ _ _ _; first | refine goR ?_ | refine clR 17 tt rfl rfl rfl (hr := hs) (k := ?_) | refine clR 23 tt rfl rfl rfl (hr := ht) (k := ?_) | refine clR 15 tt rfl rfl rfl (hr := m1) (k := ?_) | refine clR 15 tt rfl rfl rfl (hr := m2) (k := ?_) | refine clR 81 tt rfl rfl rfl (hr := f1) (k := ?_) | refine clR 82 tt rfl rfl rfl (hr := r1) (k := ?_) | refine clR 44 tt rfl rfl rfl (hr := q1) (k := ?_) | refine clR 15 tt rfl rfl rfl (hr := m3) (k := ?_) | refine clR 25 tt rfl rfl rfl (hr := c1) (k := ?_) | refine clR 78 tt rfl rfl rfl (hr := i1) (k := ?_) | refine clR 83 tt rfl rfl rfl (hr := a1) (k := ?_) | refine clR 44 tt rfl rfl rfl (hr := q2) (k := ?_) | (refine gdRD rfl rfl (fun _ => ?_) (fun _ => ?_) <;> try (exfalso; omega)) | (refine gdRN rfl rfl (fun _ => ?_) (fun _ => ?_) <;> try (exfalso; omega)) | refine gdR rfl rfl (fun _ => ?_) (fun _ => ?_))
      | (show retPost _ _ _ _ _; first | refine finF true rfl rfl sc ?_ | refine finF false rfl rfl sc ?_ | refine finC false rfl rfl sc sc ?_ | refine finN rfl rfl sc ?_ | refine finL true rfl rfl sc rfl (LeR.cons rfl leL LeR.nil) ?_ | refine finE true rfl rfl sc ?_ | refine finE false rfl rfl sc ?_))
    rfl
theorem ref04_RootE (v : R3) (b : Int) (hb : -9223372036854775808 ≤ b) (hb2 : b < 9223372036854775808) (hv : RatOk v 20000) (h0 : (rv v).num < 0 ∨ b < 0 ∨ 128 < b) : Ret Tryz.prog 34 [rD v, .int .i64 b] (· = .tup [iD r0 r0, .int .i64 1]) := by
  have hs := ref03_Sign v (hv.up (by decide))
  have hs0 : (rv v).num < 0 ↔ (rv v).num.sign < 0 := by rw [← Int.not_le, ← Int.not_le, Int.sign_nonneg_iff]
  generalize (rv v).num.sign = sg at *
  generalize (rv v).num = nu at *
  rw [hs0] at h0
  clear hs0
  refine ret_of_awp tab Tryz.func34 rfl rfl (Nat.le_of_ble_eq_true rfl) (fun w0 F0 => ?_)
  repeat' (first
    | (show awpL _ _ _ _ _; first | refine goL ?_ | refine cl 17 tt rfl rfl rfl (hr := hs) (k := ?_) | (refine gdLD rfl rfl (fun _ => ?_) (fun _ => ?_) <;> try (exfalso; omega)) | (refine gdLN rfl rfl (fun _ => ?_) (fun _ => ?_) <;> try (exfalso; omega)) | refine gdL rfl rfl (fun _ => ?_) (fun _ => ?_))
    | (show awp _ _ _ _; first | refine goA ?_ | refine awp_regK 4 7 [7] mixed (by kernel_rfl) (by kernel_rfl) (by kernel_rfl) ?_ | refine awp_reg 7 4 mixed (by kernel_rfl) (by kernel_rfl) ?_ | refine awp_regK 9 6 [10] mixed (by kernel_rfl) (by kernel_rfl) (by kernel_rfl) ?_ | refine awp_reg 10 4 mixed (by kernel_rfl) (by kernel_rfl) ?_ | (refine awp_condD rfl (fun _ => ?_) (fun _ => ?_) <;> try (exfalso; omega)) | (refine awp_condN rfl (fun _ => ?_) (fun _ => ?_) <;> try (exfalso; omega)) | refine awp_cond rfl (fun _ => ?_) (fun _ => ?_))
    | (show andThen _ _ _ _; first | refine goN ?_)
    | (show inBlock _ _ _ _; first | refine goB ?_)
    | (show awpR _ _ _ _ _ _; first | refine goR ?_ | refine clR 17 tt rfl rfl rfl (hr := hs) (k := ?_) | (refine gdRD rfl rfl (fun _ => ?_) (fun _ => ?_) <;> try (exfalso; omega)) | (refine gdRN rfl rfl (fun _ => ?_) (fun _ => ?_) <;> try (exfalso; omega)) | refine gdR rfl rfl (fun _ => ?_) (fun _ => ?_))
    | (show retPost _ _ _ _ _; first | refine finF true rfl rfl sc ?_ | refine finF false rfl rfl sc ?_ | refine finC false rfl rfl sc sc ?_ | refine finN rfl rfl sc ?_ | refine finL true rfl rfl sc rfl (LeR.cons rfl leL LeR.nil) ?_ | refine finT true rfl rfl sc ?_ | refine finT false rfl rfl sc ?_ | refine finE true rfl rfl sc ?_ | refine finE false rfl rfl sc ?_))
  all_goals exact leT
end Go.Proofs.YtjjefhbceoeibaaGreat

set_option linter.unusedVariables false
set_option linter.unusedSimpArgs false
namespace Go.Proofs.YtjjefhbceoeibaaGreat
open Go.Vw
attribute [local irreducible] awp awpL awpR

theorem rational_FromIntQ (v : Int) (h1 : -9223372036854775808 ≤ v) (h2 : v < 9223372036854775808) : Ret Tryz.prog 73 [.int .i64 v] (· = qD (v : Rat)) := by
  have := rational_FromInt v h1 h2
  rw [← rq_int] at this
  exact this
theorem interval_number (x : R3) (h : RatOk x 1000000) : Ret Tryz.prog 72 [rD x] (· = qD (rv x)) := by
  have a := rational_Add x r0 h (ok_r0 (by decide))
  rw [rv_r0, Rat.add_zero] at a
  refine ret_of_awp tab Tryz.func72 rfl rfl (Nat.le_of_ble_eq_true rfl) (fun w0 F0 => ?_)
  repeat' (first
    | (show awpL _ _ _ _ _; first | refine goL ?_ | refine cl 74 tt rfl rfl rfl (hr := a) (k := ?_) | (refine gdLD rfl rfl (fun _ => ?_) (fun _ => ?_) <;> try (exfalso; omega)) | (refine gdLN rfl rfl (fun _ => ?_) (fun _ => ?_) <;> try (exfalso; omega)) | refine gdL rfl rfl (fun _ => ?_) (fun _ => ?_))
    | (show awp _ _ _ _; first | refine goA ?_ | (refine awp_condD rfl (fun _ => ?_) (fun _ => ?_) <;> try (exfalso; omega)) | (refine awp_condN rfl (fun _ => ?_) (fun _ => ?_) <;> try (exfalso; omega)) | refine awp_cond rfl (fun _ => ?_) (fun _ => ?_))
    | (show andThen _ _ _ _; first | refine goN ?_)
    | (show inBlock _ _ _ _; first | refine goB ?_)
    | (show awpR _ _ _ _ _ _; first | refine goR ?_ | refine clR 74 tt rfl rfl rfl (hr := a) (k := ?_) | (refine gdRD rfl rfl (fun _ => ?_) (fun _ => ?_) <;> try (exfalso; omega)) | (refine gdRN rfl rfl (fun _ => ?_) (fun _ => ?_) <;> try (exfalso; omega)) | refine gdR rfl rfl (fun _ => ?_) (fun _ => ?_))
    | (show retPost _ _ _ _ _; first | refine finF true rfl rfl sc ?_ | refine finF false rfl rfl sc ?_ | refine finC false rfl rfl sc sc ?_ | refine finN rfl rfl sc ?_ | refine finL true rfl rfl sc rfl (LeR.cons rfl leL LeR.nil) ?_ | refine finE true rfl rfl sc ?_ | refine finE false rfl rfl sc ?_))
  rfl
theorem interval_numberQ (x : Rat) (h : okQ 1000000 x) : Ret Tryz.prog 72 [qD x] (· = qD x) := by
  have := interval_number (rq x) (ok_rq h)
  rw [rv_rq] at this
  exact this
theorem interval_value (a b : R3) (ha : RatOk a 50000) (hb : RatOk b 50000) : Ret Tryz.prog 57 [iD a b] (· = iQ (takeI (rv a) (rv b))) := by
  have h1 := interval_number a (ha.up (by decide))
  have h2 := interval_number b (hb.up (by decide))
  have hc := rational_CompareQ (rv a) (rv b) ((okQ_rv ha (by decide)).mono (by decide)) ((okQ_rv hb (by decide)).mono (by decide))
  have hp := cmpQ_pos (rv a) (rv b)
  generalize rv a = x at *
  generalize rv b = y at *
  obtain ⟨c, hcc⟩ : ∃ c, cmpQ x y = c := ⟨_, rfl⟩
  rw [hcc] at hc hp
  unfold takeI
  by_cases h : y < x
  · have hk := hp.2 h
    clear hp
    rw [if_pos h]
    unfold iQ
    rw [rq_zero]
    refine ret_of_awp tab Tryz.func57 rfl rfl (Nat.le_of_ble_eq_true rfl) (fun w0 F0 => ?_)
    repeat' (first
      | (show awpL _ _ _ _ _; first | refine goL ?_ | refine cl 72 tt rfl rfl rfl (hr := h1) (k := ?_) | refine cl 72 tt rfl rfl rfl (hr := h2) (k := ?_) | refine cl 71 tt rfl rfl rfl (hr := hc) (k := ?_) | (refine gdLD rfl rfl (fun _ => ?_) (fun _ => ?_) <;> try (exfalso; omega)) | (refine gdLN rfl rfl (fun _ => ?_) (fun _ => ?_) <;> try (exfalso; omega)) | refine gdL rfl rfl (fun _ => ?_) (fun _ => ?_))
      | (show awp _ _ _ _; first | refine goA ?_ | refine awp_reg 1 5 mixed (by kernel_rfl) (by kernel_rfl) ?_ | (refine awp_condD rfl (fun _ => ?_) (fun _ => ?_) <;> try (exfalso; omega)) | (refine awp_condN rfl (fun _ => ?_) (fun _ => ?_) <;> try (exfalso; omega)) | refine awp_cond rfl (fun _ => ?_) (fun _ => ?_))
      | (show andThen _ _ _ _; first | refine goN ?_)
      | (show inBlock _ _ _ _; first | refine goB ?_)
      | (show awpR _ _ _ _ _ _; first | refine goR ?_ | refine clR 72 tt rfl rfl rfl (hr := h1) (k := ?_) | refine clR 72 tt rfl rfl rfl (hr := h2) (k := ?_) | refine clR 71 tt rfl rfl rfl (hr := hc) (k := ?_) | (refine gdRD rfl rfl (fun _ => ?_) (fun _ => ?_) <;> try (exfalso; omega)) | (refine gdRN rfl rfl (fun _ => ?_) (fun _ => ?_) <;> try (exfalso; omega)) | refine gdR rfl rfl (fun _ => ?_) (fun _ => ?_))
      | (show retPost _ _ _ _ _; first | refine finF true rfl rfl sc ?_ | refine finF false rfl rfl sc ?_ | refine finC false rfl rfl sc sc ?_ | refine finN rfl rfl sc ?_ | refine finL true rfl rfl sc rfl (LeR.cons rfl leL LeR.nil) ?_ | refine finA true rfl rfl sc ?_ | refine finA false rfl rfl sc ?_ | refine finE true rfl rfl sc ?_ | refine finE false rfl rfl sc ?_))
    exact leL
  · have hk := mt hp.1 h
    clear hp
    rw [if_neg h]
    refine ret_of_awp tab Tryz.func57 rfl rfl (Nat.le_of_ble_eq_true rfl) (fun w0 F0 => ?_)
    repeat' (first
      | (show awpL _ _ _ _ _; first | refine goL ?_ | refine cl 72 tt rfl rfl rfl (hr := h1) (k := ?_) | refine cl 72 tt rfl rfl rfl (hr := h2) (k := ?_) | refine cl 71 tt rfl rfl rfl (hr := hc) (k := ?_) | (refine gdLD rfl rfl (fun _ => ?_) (fun _ => ?_) <;> try (exfalso; omega)) | (refine gdLN rfl rfl (fun _ => ?_) (fun _ => ?_) <;> try (exfalso; omega)) | refine gdL rfl rfl (fun _ => ?_) (fun _ => ?_))
      | (show awp _ _ _ _; first | refine goA ?_ | refine awp_reg 1 5 mixed (by kernel_rfl) (by kernel_rfl) ?_ | (refine awp_condD rfl (fun _ => ?_) (fun _ => ?_) <;> try (exfalso; omega)) | (refine awp_condN rfl (fun _ => ?_) (fun _ => ?_) <;> try (exfalso; omega)) | refine awp_cond rfl (fun _ => ?_) (fun _ => ?_))
      | (show andThen _ _ _ _; first | refine goN ?_)
      | (show inBlock _ _ _ _; first | refine goB ?_)
      | (show awpR _ _ _ _ _ _; first | refine goR ?_ | refine clR 72 tt rfl rfl rfl (hr := h1) (k := ?_) | refine clR 72 tt rfl rfl rfl (hr := h2) (k := ?_) | refine clR 71 tt rfl rfl rfl (hr := hc) (k := ?_) | (refine gdRD rfl rfl (fun _ => ?_) (fun _ => ?_) <;> try (exfalso; omega)) | (refine gdRN rfl rfl (fun _ => ?_) (fun _ => ?_) <;> try (exfalso; omega)) | refine gdR rfl rfl (fun _ => ?_) (fun _ => ?_))
      | (show retPost _ _ _ _ _; first | refine finF true rfl rfl sc ?_ | refine finF false rfl rfl sc ?_ | refine finC false rfl rfl sc sc ?_ | refine finN rfl rfl sc ?_ | refine finL true rfl rfl sc rfl (LeR.cons rfl leL LeR.nil) ?_ | refine finE true rfl rfl sc ?_ | refine finE false rfl rfl sc ?_))
    rfl
theorem interval_valueQ (i : I2) (hle : i.1 ≤ i.2) (hi : okI 50000 i) : Ret Tryz.prog 57 [iQ i] (· = iQ i) := by
  have := interval_value (rq i.1) (rq i.2) (ok_rq hi.1) (ok_rq hi.2)
  rw [rv_rq, rv_rq, takeI_of hle] at this
  exact this
theorem interval_Valid (a b : R3) (ha : RatOk a 50000) (hb : RatOk b 50000) : Ret Tryz.prog 49 [iD a b] (· = .bool (validR a && validR b && decide (rv a ≤ rv b))) := by
  have h1 := rational_Valid a (ha.up (by decide))
  have h2 := rational_Valid b (hb.up (by decide))
  have hc := rational_Compare a b (ha.up (by decide)) (hb.up (by decide))
  have hp := cmpQ_pos (rv a) (rv b)
  obtain ⟨c, hcc⟩ : ∃ c, cmpQ (rv a) (rv b) = c := ⟨_, rfl⟩
  rw [hcc] at hc hp
  rw [show decide (rv a ≤ rv b) = decide (c ≤ 0) by refine decide_eq_decide.2 ?_; rw [← Rat.not_lt, ← Int.not_lt, hp]]
  clear hp hcc
  generalize validR a = x at *
  generalize validR b = y at *
  cases x <;> cases y
  all_goals
    refine ret_of_awp tab Tryz.func49 rfl rfl (Nat.le_of_ble_eq_true rfl) (fun w0 F0 => ?_)
    repeat' (first
      | (show awpL _ _ _ _ _; first | refine goL ?_ | refine cl 85 tt rfl rfl rfl (hr := h1) (k := ?_) | refine cl 85 tt rfl rfl rfl (hr := h2) (k := ?_) | refine cl 71 tt rfl rfl rfl (hr := hc) (k := ?_) | (refine gdLD rfl rfl (fun _ => ?_) (fun _ => ?_) <;> try (exfalso; omega)) | (refine gdLN rfl rfl (fun _ => ?_) (fun _ => ?_) <;> try (exfalso; omega)) | refine gdL rfl rfl (fun _ => ?_) (fun _ => ?_))
      | (show awp _ _ _ _; first | refine goA ?_ | (refine awp_condD rfl (fun _ => ?_) (fun _ => ?_) <;> try (exfalso; omega)) | (refine awp_condN rfl (fun _ => ?_) (fun _ => ?_) <;> try (exfalso; omega)) | refine awp_cond rfl (fun _ => ?_) (fun _ => ?_))
      | (show andThen _ _ _ _; first | refine goN ?_)
      | (show inBlock _ _ _ _; first | refine goB ?_)
      | (show awpR _ _ _ _ _ _; first | refine goR ?_ | refine clR 85 tt rfl rfl rfl (hr := h1) (k := ?_) | refine clR 85 tt rfl rfl rfl (hr := h2) (k := ?_) | refine clR 71 tt rfl rfl rfl (hr := hc) (k := ?_) | (refine gdRD rfl rfl (fun _ => ?_) (fun _ => ?_) <;> try (exfalso; omega)) | (refine gdRN rfl rfl (fun _ => ?_) (fun _ => ?_) <;> try (exfalso; omega)) | refine gdR rfl rfl (fun _ => ?_) (fun _ => ?_))
      | (show retPost _ _ _ _ _; first | refine finF true rfl rfl sc ?_ | refine finF false rfl rfl sc ?_ | refine finC false rfl rfl sc sc ?_ | refine finN rfl rfl sc ?_ | refine finL true rfl rfl sc rfl (LeR.cons rfl leL LeR.nil) ?_ | refine finE true rfl rfl sc ?_ | refine finE false rfl rfl sc ?_))
    rfl
theorem interval_Make (a b : R3) (ha : RatOk a 50000) (hb : RatOk b 50000) : Ret Tryz.prog 47 [rD a, rD b] (· = if rv b < rv a then .tup [iD r0 r0, .int .i64 1] else .tup [iQ (rv a, rv b), .int .i64 0]) := by
  have h1 := interval_number a (ha.up (by decide))
  have h2 := interval_number b (hb.up (by decide))
  have hc := rational_Compare a b (ha.up (by decide)) (hb.up (by decide))
  have hp := cmpQ_pos (rv a) (rv b)
  obtain ⟨c, hcc⟩ : ∃ c, cmpQ (rv a) (rv b) = c := ⟨_, rfl⟩
  rw [hcc] at hc hp
  by_cases h : rv b < rv a
  · have hk := hp.2 h
    clear hp
    rw [if_pos h]
    refine ret_of_awp tab Tryz.func47 rfl rfl (Nat.le_of_ble_eq_true rfl) (fun w0 F0 => ?_)
    repeat' (first
      | (show awpL _ _ _ _ _; first | refine goL ?_ | refine cl 71 tt rfl rfl rfl (hr := hc) (k := ?_) | (refine gdLD rfl rfl (fun _ => ?_) (fun _ => ?_) <;> try (exfalso; omega)) | (refine gdLN rfl rfl (fun _ => ?_) (fun _ => ?_) <;> try (exfalso; omega)) | refine gdL rfl rfl (fun _ => ?_) (fun _ => ?_))
      | (show awp _ _ _ _; first | refine goA ?_ | refine awp_reg 3 3 mixed (by kernel_rfl) (by kernel_rfl) ?_ | (refine awp_condD rfl (fun _ => ?_) (fun _ => ?_) <;> try (exfalso; omega)) | (refine awp_condN rfl (fun _ => ?_) (fun _ => ?_) <;> try (exfalso; omega)) | refine awp_cond rfl (fun _ => ?_) (fun _ => ?_))
      | (show andThen _ _ _ _; first | refine goN ?_)
      | (show inBlock _ _ _ _; first | refine goB ?_)
      | (show awpR _ _ _ _ _ _; first | refine goR ?_ | refine clR 71 tt rfl rfl rfl (hr := hc) (k := ?_) | (refine gdRD rfl rfl (fun _ => ?_) (fun _ => ?_) <;> try (exfalso; omega)) | (refine gdRN rfl rfl (fun _ => ?_) (fun _ => ?_) <;> try (exfalso; omega)) | refine gdR rfl rfl (fun _ => ?_) (fun _ => ?_))
      | (show retPost _ _ _ _ _; first | refine finF true rfl rfl sc ?_ | refine finF false rfl rfl sc ?_ | refine finC false rfl rfl sc sc ?_ | refine finN rfl rfl sc ?_ | refine finL true rfl rfl sc rfl (LeR.cons rfl leL LeR.nil) ?_ | refine finT true rfl rfl sc ?_ | refine finT false rfl rfl sc ?_ | refine finE true rfl rfl sc ?_ | refine finE false rfl rfl sc ?_))
    exact leT
  · have hk := mt hp.1 h
    clear hp
    rw [if_neg h]
    refine ret_of_awp tab Tryz.func47 rfl rfl (Nat.le_of_ble_eq_true rfl) (fun w0 F0 => ?_)
    repeat' (first
      | (show awpL _ _ _ _ _; first | refine goL ?_ | refine cl 72 tt rfl rfl rfl (hr := h1) (k := ?_) | refine cl 72 tt rfl rfl rfl (hr := h2) (k := ?_) | refine cl 71 tt rfl rfl rfl (hr := hc) (k := ?_) | (refine gdLD rfl rfl (fun _ => ?_) (fun _ => ?_) <;> try (exfalso; omega)) | (refine gdLN rfl rfl (fun _ => ?_) (fun _ => ?_) <;> try (exfalso; omega)) | refine gdL rfl rfl (fun _ => ?_) (fun _ => ?_))
      | (show awp _ _ _ _; first | refine goA ?_ | refine awp_reg 3 3 mixed (by kernel_rfl) (by kernel_rfl) ?_ | (refine awp_condD rfl (fun _ => ?_) (fun _ => ?_) <;> try (exfalso; omega)) | (refine awp_condN rfl (fun _ => ?_) (fun _ => ?_) <;> try (exfalso; omega)) | refine awp_cond rfl (fun _ => ?_) (fun _ => ?_))
      | (show andThen _ _ _ _; first | refine goN ?_)
      | (show inBlock _ _ _ _; first | refine goB ?_)
      | (show awpR _ _ _ _ _ _; first | refine goR ?_ | refine clR 72 tt rfl rfl rfl (hr := h1) (k := ?_) | refine clR 72 tt rfl rfl rfl (hr := h2) (k := ?_) | refine clR 71 tt rfl rfl rfl (hr := hc) (k := ?_) | (refine gdRD rfl rfl (fun _ => ?_) (fun _ => ?_) <;> try (exfalso; omega)) | (refine gdRN rfl rfl (fun _ => ?_) (fun _ => ?_) <;> try (exfalso; omega)) | refine gdR rfl rfl (fun _ => ?_) (fun _ => ?_))
      | (show retPost _ _ _ _ _; first | refine finF true rfl rfl sc ?_ | refine finF false rfl rfl sc ?_ | refine finC false rfl rfl sc sc ?_ | refine finN rfl rfl sc ?_ | refine finL true rfl rfl sc rfl (LeR.cons rfl leL LeR.nil) ?_ | refine finE true rfl rfl sc ?_ | refine finE false rfl rfl sc ?_))
    rfl
theorem interval_Contains (a b v : R3) (ha : RatOk a 50000) (hb : RatOk b 50000) (hv : RatOk v 50000) : Ret Tryz.prog 43 [iD a b, rD v] (· = .bool (containsI (takeI (rv a) (rv b)) (rv v))) := by
  have t1 := interval_value a b ha hb
  have o1 := takeI_ok (okQ_rv ha (by decide)) (okQ_rv hb (by decide)) (by decide)
  generalize takeI (rv a) (rv b) = i at *
  obtain ⟨p, q⟩ := i
  obtain ⟨op, oq⟩ := o1
  have h1 := rational_Compare (rq p) v (ok_rq (op.mono (by decide))) (hv.up (by decide))
  have h2 := rational_Compare v (rq q) (hv.up (by decide)) (ok_rq (oq.mono (by decide)))
  rw [rv_rq] at h1 h2
  have p1 := cmpQ_pos p (rv v)
  have p2 := cmpQ_pos (rv v) q
  obtain ⟨c, hc⟩ : ∃ c, cmpQ p (rv v) = c := ⟨_, rfl⟩
  obtain ⟨d, hd⟩ : ∃ d, cmpQ (rv v) q = d := ⟨_, rfl⟩
  rw [hc] at h1 p1
  rw [hd] at h2 p2
  unfold containsI
  simp only
  rw [show decide (p ≤ rv v) = decide (c ≤ 0) by refine decide_eq_decide.2 ?_; rw [← Rat.not_lt, ← Int.not_lt, p1], show decide (rv v ≤ q) = decide (d ≤ 0) by refine decide_eq_decide.2 ?_; rw [← Rat.not_lt, ← Int.not_lt, p2]]
  clear hc hd p1 p2
  refine ret_of_awp tab Tryz.func43 rfl rfl (Nat.le_of_ble_eq_true rfl) (fun w0 F0 => ?_)
  repeat' (first
    | (show awpL _ _ _ _ _; first | refine goL ?_ | refine cl 57 tt rfl rfl rfl (hr := t1) (k := ?_) | refine cl 71 tt rfl rfl rfl (hr := h1) (k := ?_) | refine cl 71 tt rfl rfl rfl (hr := h2) (k := ?_) | (refine gdLD rfl rfl (fun _ => ?_) (fun _ => ?_) <;> try (exfalso; omega)) | (refine gdLN rfl rfl (fun _ => ?_) (fun _ => ?_) <;> try (exfalso; omega)) | refine gdL rfl rfl (fun _ => ?_) (fun _ => ?_))
    | (show awp _ _ _ _; first | refine goA ?_ | (refine awp_condD rfl (fun _ => ?_) (fun _ => ?_) <;> try (exfalso; omega)) | (refine awp_condN rfl (fun _ => ?_) (fun _ => ?_) <;> try (exfalso; omega)) | refine awp_cond rfl (fun _ => ?_) (fun _ => ?_))
    | (show andThen _ _ _ _; first | refine goN ?_)
    | (show inBlock _ _ _ _; first | refine goB ?_)
    | (show awpR _ _ _ _ _ _; first | refine goR ?_ | refine clR 57 tt rfl rfl rfl (hr := t1) (k := ?_) | refine clR 71 tt rfl rfl rfl (hr := h1) (k := ?_) | refine clR 71 tt rfl rfl rfl (hr := h2) (k := ?_) | (refine gdRD rfl rfl (fun _ => ?_) (fun _ => ?_) <;> try (exfalso; omega)) | (refine gdRN rfl rfl (fun _ => ?_) (fun _ => ?_) <;> try (exfalso; omega)) | refine gdR rfl rfl (fun _ => ?_) (fun _ => ?_))
    | (show retPost _ _ _ _ _; first | refine finF true rfl rfl sc ?_ | refine finF false rfl rfl sc ?_ | refine finC false rfl rfl sc sc ?_ | refine finN rfl rfl sc ?_ | refine finL true rfl rfl sc rfl (LeR.cons rfl leL LeR.nil) ?_ | refine finE true rfl rfl sc ?_ | refine finE false rfl rfl sc ?_))
  all_goals first | rfl | (rename_i hc; simp [hc])
theorem interval_ContainsI (i : I2) (hle : i.1 ≤ i.2) (hi : okI 50000 i) (v : R3) (hv : RatOk v 50000) : Ret Tryz.prog 43 [iQ i, rD v] (· = .bool (containsI i (rv v))) := by
  have := interval_Contains (rq i.1) (rq i.2) v (ok_rq hi.1) (ok_rq hi.2) hv
  rw [rv_rq, rv_rq, takeI_of hle] at this
  exact this
end Go.Proofs.YtjjefhbceoeibaaGreat
