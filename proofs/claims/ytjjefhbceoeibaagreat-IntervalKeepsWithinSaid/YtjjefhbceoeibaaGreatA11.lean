/-
  Contracts of functions of the program, and the layer that they are walked with: N16 N17 VW VX VY N18. Conditions: as each says.
-/
import Derived.Deep.Slices
import Derived.Carry
import Derived.OpenShut
import Derived.WalkKit
import Derived.ProofKit
import Derived.Deep.DeepHandedRow
import Derived.Lib.LaidTab
import Derived.Test.YtjjefhbceoeibaaGreatA10
set_option linter.unusedVariables false
set_option linter.unusedSimpArgs false
set_option maxHeartbeats 4000000
namespace Go.Proofs.YtjjefhbceoeibaaGreat
open Go.Vw
attribute [local irreducible] awp awpL awpR

theorem interval_hull (x : Rat) (l : List Rat) (hl : l.length < 1000000) (h : ∀ q ∈ x :: l, okQ 200000 q) : Ret Tryz.prog 58 [qD x, qsD l] (· = iQ (hullL x l)) := by
  have hx : okQ 200000 x := h x (List.mem_cons_self ..)
  have h' : ∀ q ∈ l, okQ 200000 q := fun q hq => h q (List.mem_cons_of_mem _ hq)
  refine ret_of_awp tab Tryz.func58 rfl rfl (Nat.le_of_ble_eq_true rfl) (fun w0 F0 => ?_)
  repeat' (first
    | (show awpL _ _ _ _ _; first | refine goL ?_ | (refine gdLD rfl rfl (fun _ => ?_) (fun _ => ?_) <;> try (exfalso; omega)) | (refine gdLN rfl rfl (fun _ => ?_) (fun _ => ?_) <;> try (exfalso; omega)) | refine gdL rfl rfl (fun _ => ?_) (fun _ => ?_))
    | (show awp _ _ _ _; first | refine goA ?_ | refine awp_reg 10 5 mixed (by kernel_rfl) (by kernel_rfl) ?_ | (refine awp_condD rfl (fun _ => ?_) (fun _ => ?_) <;> try (exfalso; omega)) | (refine awp_condN rfl (fun _ => ?_) (fun _ => ?_) <;> try (exfalso; omega)) | refine awp_cond rfl (fun _ => ?_) (fun _ => ?_))
    | (show andThen _ _ _ _; first | refine goN ?_)
    | (show inBlock _ _ _ _; first | refine goB ?_)
    | (show awpR _ _ _ _ _ _; first | refine goR ?_ | (refine gdRD rfl rfl (fun _ => ?_) (fun _ => ?_) <;> try (exfalso; omega)) | (refine gdRN rfl rfl (fun _ => ?_) (fun _ => ?_) <;> try (exfalso; omega)) | refine gdR rfl rfl (fun _ => ?_) (fun _ => ?_))
    | (show retPost _ _ _ _ _; first | refine finF true rfl rfl sc ?_ | refine finF false rfl rfl sc ?_ | refine finC false rfl rfl sc sc ?_ | refine finN rfl rfl sc ?_ | refine finL true rfl rfl sc rfl (LeR.cons rfl leL LeR.nil) ?_ | refine finE true rfl rfl sc ?_ | refine finE false rfl rfl sc ?_))
  refine awp_loop1 (fun (i : Nat) => ([(11, .d (qsD l)), (12, .d (.int .i64 l.length)), (13, .d (.int .i64 i)), (4, .ptr 4 0), (5, .ptr 5 0)], [(4, .box 28 zI), (5, .box 28 ((iC (rq ((l.take i).foldl minQ x)) (rq ((l.take i).foldl maxQ x))).map V.d))])) (fun i => i ≤ l.length) (fun i => l.length - i) 0 (by omega) ?_ ?_ (fun i hi => ?_)
  · exact ⟨rfl, rfl, rfl, rfl, rfl, rfl⟩
  · exact ⟨rfl, rfl, trivial⟩
  by_cases h3 : i < l.length
  · have hk := take_ok (k := 200000) hx h' i
    have hg := getD_ok h' h3
    have e1 := foldl_take minQ x l h3
    have e2 := foldl_take maxQ x l h3
    obtain ⟨y, hy⟩ : ∃ y, l.getD i 0 = y := ⟨_, rfl⟩
    rw [hy] at e1 e2 hg
    obtain ⟨m, hm⟩ : ∃ m, (l.take i).foldl minQ x = m := ⟨_, rfl⟩
    obtain ⟨n, hn⟩ : ∃ n, (l.take i).foldl maxQ x = n := ⟨_, rfl⟩
    rw [hm] at e1
    rw [hn] at e2
    have hk1 := hk.1
    have hk2 := hk.2
    rw [hm] at hk1
    rw [hn] at hk2
    rw [hm, hn]
    have c1 := rational_CompareQ y m (hg.mono (by decide)) (hk1.mono (by decide))
    have c2 := rational_CompareQ y n (hg.mono (by decide)) (hk2.mono (by decide))
    have p1 := cmpQ_neg y m
    have p2 := cmpQ_pos y n
    obtain ⟨u, hu⟩ : ∃ u, cmpQ y m = u := ⟨_, rfl⟩
    obtain ⟨v, hv⟩ : ∃ v, cmpQ y n = v := ⟨_, rfl⟩
    rw [hu] at c1 p1
    rw [hv] at c2 p2
    rw [← hy] at c1 c2
    rw [show minQ m y = if y < m then y else m from rfl] at e1
    rw [show maxQ n y = if n < y then y else n from rfl] at e2
    by_cases b1 : y < m
    · have u1 := p1.2 b1
      rw [if_pos b1] at e1
      by_cases b2 : n < y
      · have v1 := p2.2 b2
        rw [if_pos b2] at e2
        clear p1 p2 hk hm hn
        repeat' (first
          | (show awpL _ _ _ _ _; first | refine goL ?_ | refine cl 71 tt rfl rfl rfl (hr := c1) (k := ?_) | refine cl 71 tt rfl rfl rfl (hr := c2) (k := ?_) | (refine gdLD rfl rfl (fun _ => ?_) (fun _ => ?_) <;> try (exfalso; omega)) | (refine gdLN rfl rfl (fun _ => ?_) (fun _ => ?_) <;> try (exfalso; omega)) | refine gdL rfl rfl (fun _ => ?_) (fun _ => ?_))
          | (show awp _ _ _ _; first | refine goA ?_ | refine awp_reg 10 5 mixed (by kernel_rfl) (by kernel_rfl) ?_ | (refine awp_condD rfl (fun _ => ?_) (fun _ => ?_) <;> try (exfalso; omega)) | (refine awp_condN rfl (fun _ => ?_) (fun _ => ?_) <;> try (exfalso; omega)) | refine awp_cond rfl (fun _ => ?_) (fun _ => ?_))
          | (show andThen _ _ _ _; first | refine goN ?_)
          | (show inBlock _ _ _ _; first | refine goB ?_)
          | (show awpR _ _ _ _ _ _; first | refine goR ?_ | refine clR 71 tt rfl rfl rfl (hr := c1) (k := ?_) | refine clR 71 tt rfl rfl rfl (hr := c2) (k := ?_) | (refine gdRD rfl rfl (fun _ => ?_) (fun _ => ?_) <;> try (exfalso; omega)) | (refine gdRN rfl rfl (fun _ => ?_) (fun _ => ?_) <;> try (exfalso; omega)) | refine gdR rfl rfl (fun _ => ?_) (fun _ => ?_))
          | (show retPost _ _ _ _ _; first | refine finF true rfl rfl sc ?_ | refine finF false rfl rfl sc ?_ | refine finC false rfl rfl sc sc ?_ | refine finN rfl rfl sc ?_ | refine finL true rfl rfl sc rfl (LeR.cons rfl leL LeR.nil) ?_ | refine finE true rfl rfl sc ?_ | refine finE false rfl rfl sc ?_))
        exact ⟨i + 1, by omega, by omega, ⟨rfl, rfl, iv (by omega), rfl, rfl, rfl⟩, rfl, by rw [e1, e2, ← hy]; rfl, trivial⟩
      · have v1 := mt p2.1 b2
        rw [if_neg b2] at e2
        clear p1 p2 hk hm hn
        repeat' (first
          | (show awpL _ _ _ _ _; first | refine goL ?_ | refine cl 71 tt rfl rfl rfl (hr := c1) (k := ?_) | refine cl 71 tt rfl rfl rfl (hr := c2) (k := ?_) | (refine gdLD rfl rfl (fun _ => ?_) (fun _ => ?_) <;> try (exfalso; omega)) | (refine gdLN rfl rfl (fun _ => ?_) (fun _ => ?_) <;> try (exfalso; omega)) | refine gdL rfl rfl (fun _ => ?_) (fun _ => ?_))
          | (show awp _ _ _ _; first | refine goA ?_ | refine awp_reg 10 5 mixed (by kernel_rfl) (by kernel_rfl) ?_ | (refine awp_condD rfl (fun _ => ?_) (fun _ => ?_) <;> try (exfalso; omega)) | (refine awp_condN rfl (fun _ => ?_) (fun _ => ?_) <;> try (exfalso; omega)) | refine awp_cond rfl (fun _ => ?_) (fun _ => ?_))
          | (show andThen _ _ _ _; first | refine goN ?_)
          | (show inBlock _ _ _ _; first | refine goB ?_)
          | (show awpR _ _ _ _ _ _; first | refine goR ?_ | refine clR 71 tt rfl rfl rfl (hr := c1) (k := ?_) | refine clR 71 tt rfl rfl rfl (hr := c2) (k := ?_) | (refine gdRD rfl rfl (fun _ => ?_) (fun _ => ?_) <;> try (exfalso; omega)) | (refine gdRN rfl rfl (fun _ => ?_) (fun _ => ?_) <;> try (exfalso; omega)) | refine gdR rfl rfl (fun _ => ?_) (fun _ => ?_))
          | (show retPost _ _ _ _ _; first | refine finF true rfl rfl sc ?_ | refine finF false rfl rfl sc ?_ | refine finC false rfl rfl sc sc ?_ | refine finN rfl rfl sc ?_ | refine finL true rfl rfl sc rfl (LeR.cons rfl leL LeR.nil) ?_ | refine finE true rfl rfl sc ?_ | refine finE false rfl rfl sc ?_))
        exact ⟨i + 1, by omega, by omega, ⟨rfl, rfl, iv (by omega), rfl, rfl, rfl⟩, rfl, by rw [e1, e2, ← hy]; rfl, trivial⟩
    · have u1 := mt p1.1 b1
      rw [if_neg b1] at e1
      by_cases b2 : n < y
      · have v1 := p2.2 b2
        rw [if_pos b2] at e2
        clear p1 p2 hk hm hn
        repeat' (first
          | (show awpL _ _ _ _ _; first | refine goL ?_ | refine cl 71 tt rfl rfl rfl (hr := c1) (k := ?_) | refine cl 71 tt rfl rfl rfl (hr := c2) (k := ?_) | (refine gdLD rfl rfl (fun _ => ?_) (fun _ => ?_) <;> try (exfalso; omega)) | (refine gdLN rfl rfl (fun _ => ?_) (fun _ => ?_) <;> try (exfalso; omega)) | refine gdL rfl rfl (fun _ => ?_) (fun _ => ?_))
          | (show awp _ _ _ _; first | refine goA ?_ | refine awp_reg 10 5 mixed (by kernel_rfl) (by kernel_rfl) ?_ | (refine awp_condD rfl (fun _ => ?_) (fun _ => ?_) <;> try (exfalso; omega)) | (refine awp_condN rfl (fun _ => ?_) (fun _ => ?_) <;> try (exfalso; omega)) | refine awp_cond rfl (fun _ => ?_) (fun _ => ?_))
          | (show andThen _ _ _ _; first | refine goN ?_)
          | (show inBlock _ _ _ _; first | refine goB ?_)
          | (show awpR _ _ _ _ _ _; first | refine goR ?_ | refine clR 71 tt rfl rfl rfl (hr := c1) (k := ?_) | refine clR 71 tt rfl rfl rfl (hr := c2) (k := ?_) | (refine gdRD rfl rfl (fun _ => ?_) (fun _ => ?_) <;> try (exfalso; omega)) | (refine gdRN rfl rfl (fun _ => ?_) (fun _ => ?_) <;> try (exfalso; omega)) | refine gdR rfl rfl (fun _ => ?_) (fun _ => ?_))
          | (show retPost _ _ _ _ _; first | refine finF true rfl rfl sc ?_ | refine finF false rfl rfl sc ?_ | refine finC false rfl rfl sc sc ?_ | refine finN rfl rfl sc ?_ | refine finL true rfl rfl sc rfl (LeR.cons rfl leL LeR.nil) ?_ | refine finE true rfl rfl sc ?_ | refine finE false rfl rfl sc ?_))
        exact ⟨i + 1, by omega, by omega, ⟨rfl, rfl, iv (by omega), rfl, rfl, rfl⟩, rfl, by rw [e1, e2, ← hy]; rfl, trivial⟩
      · have v1 := mt p2.1 b2
        rw [if_neg b2] at e2
        clear p1 p2 hk hm hn
        repeat' (first
          | (show awpL _ _ _ _ _; first | refine goL ?_ | refine cl 71 tt rfl rfl rfl (hr := c1) (k := ?_) | refine cl 71 tt rfl rfl rfl (hr := c2) (k := ?_) | (refine gdLD rfl rfl (fun _ => ?_) (fun _ => ?_) <;> try (exfalso; omega)) | (refine gdLN rfl rfl (fun _ => ?_) (fun _ => ?_) <;> try (exfalso; omega)) | refine gdL rfl rfl (fun _ => ?_) (fun _ => ?_))
          | (show awp _ _ _ _; first | refine goA ?_ | refine awp_reg 10 5 mixed (by kernel_rfl) (by kernel_rfl) ?_ | (refine awp_condD rfl (fun _ => ?_) (fun _ => ?_) <;> try (exfalso; omega)) | (refine awp_condN rfl (fun _ => ?_) (fun _ => ?_) <;> try (exfalso; omega)) | refine awp_cond rfl (fun _ => ?_) (fun _ => ?_))
          | (show andThen _ _ _ _; first | refine goN ?_)
          | (show inBlock _ _ _ _; first | refine goB ?_)
          | (show awpR _ _ _ _ _ _; first | refine goR ?_ | refine clR 71 tt rfl rfl rfl (hr := c1) (k := ?_) | refine clR 71 tt rfl rfl rfl (hr := c2) (k := ?_) | (refine gdRD rfl rfl (fun _ => ?_) (fun _ => ?_) <;> try (exfalso; omega)) | (refine gdRN rfl rfl (fun _ => ?_) (fun _ => ?_) <;> try (exfalso; omega)) | refine gdR rfl rfl (fun _ => ?_) (fun _ => ?_))
          | (show retPost _ _ _ _ _; first | refine finF true rfl rfl sc ?_ | refine finF false rfl rfl sc ?_ | refine finC false rfl rfl sc sc ?_ | refine finN rfl rfl sc ?_ | refine finL true rfl rfl sc rfl (LeR.cons rfl leL LeR.nil) ?_ | refine finE true rfl rfl sc ?_ | refine finE false rfl rfl sc ?_))
        exact ⟨i + 1, by omega, by omega, ⟨rfl, rfl, iv (by omega), rfl, rfl, rfl⟩, rfl, by rw [e1, e2]; rfl, trivial⟩
  · have e : l.take i = l := List.take_of_length_le (by omega)
    rw [e]
    have ho := hullL_ok l x x hx hx h'
    have n1 := interval_numberQ (l.foldl minQ x) (ho.1.mono (by decide))
    have n2 := interval_numberQ (l.foldl maxQ x) (ho.2.mono (by decide))
    unfold hullL
    generalize l.foldl minQ x = m at *
    generalize l.foldl maxQ x = n at *
    repeat' (first
      | (show awpL _ _ _ _ _; first | refine goL ?_ | refine cl 72 tt rfl rfl rfl (hr := n1) (k := ?_) | refine cl 72 tt rfl rfl rfl (hr := n2) (k := ?_) | (refine gdLD rfl rfl (fun _ => ?_) (fun _ => ?_) <;> try (exfalso; omega)) | (refine gdLN rfl rfl (fun _ => ?_) (fun _ => ?_) <;> try (exfalso; omega)) | refine gdL rfl rfl (fun _ => ?_) (fun _ => ?_))
      | (show awp _ _ _ _; first | refine goA ?_ | refine awp_reg 10 5 mixed (by kernel_rfl) (by kernel_rfl) ?_ | (refine awp_condD rfl (fun _ => ?_) (fun _ => ?_) <;> try (exfalso; omega)) | (refine awp_condN rfl (fun _ => ?_) (fun _ => ?_) <;> try (exfalso; omega)) | refine awp_cond rfl (fun _ => ?_) (fun _ => ?_))
      | (show andThen _ _ _ _; first | refine goN ?_)
      | (show inBlock _ _ _ _; first | refine goB ?_)
      | (show awpR _ _ _ _ _ _; first | refine goR ?_ | refine clR 72 tt rfl rfl rfl (hr := n1) (k := ?_) | refine clR 72 tt rfl rfl rfl (hr := n2) (k := ?_) | (refine gdRD rfl rfl (fun _ => ?_) (fun _ => ?_) <;> try (exfalso; omega)) | (refine gdRN rfl rfl (fun _ => ?_) (fun _ => ?_) <;> try (exfalso; omega)) | refine gdR rfl rfl (fun _ => ?_) (fun _ => ?_))
      | (show retPost _ _ _ _ _; first | refine finF true rfl rfl sc ?_ | refine finF false rfl rfl sc ?_ | refine finC false rfl rfl sc sc ?_ | refine finN rfl rfl sc ?_ | refine finL true rfl rfl sc rfl (LeR.cons rfl leL LeR.nil) ?_ | refine finE true rfl rfl sc ?_ | refine finE false rfl rfl sc ?_))
    rfl
theorem interval_Within (a b c d : R3) (ha : RatOk a 50000) (hb : RatOk b 50000) (hc : RatOk c 50000) (hd : RatOk d 50000) : Ret Tryz.prog 29 [iD a b, iD c d] (· = .bool (withinI (takeI (rv a) (rv b)) (takeI (rv c) (rv d)))) := by
  have t1 := interval_value a b ha hb
  have o1 := takeI_ok (k := 50000) (okQ_rv ha (by decide)) (okQ_rv hb (by decide)) (by decide)
  have q1 := takeI_le (rv a) (rv b)
  generalize takeI (rv a) (rv b) = i at *
  obtain ⟨p, q⟩ := i
  obtain ⟨op, oq⟩ := o1
  simp only at op oq q1
  have t2 := interval_value c d hc hd
  have o2 := takeI_ok (k := 50000) (okQ_rv hc (by decide)) (okQ_rv hd (by decide)) (by decide)
  have q2 := takeI_le (rv c) (rv d)
  generalize takeI (rv c) (rv d) = j at *
  obtain ⟨s, t⟩ := j
  obtain ⟨os, ot⟩ := o2
  simp only at os ot q2
  have h1 := rational_CompareQ s p (os.mono (by decide)) (op.mono (by decide))
  have h2 := rational_CompareQ q t (oq.mono (by decide)) (ot.mono (by decide))
  have p1 := cmpQ_pos s p
  have p2 := cmpQ_pos q t
  obtain ⟨u, hu⟩ : ∃ u, cmpQ s p = u := ⟨_, rfl⟩
  obtain ⟨v, hv⟩ : ∃ v, cmpQ q t = v := ⟨_, rfl⟩
  rw [hu] at h1 p1
  rw [hv] at h2 p2
  unfold withinI
  simp only
  rw [show decide (s ≤ p) = decide (u ≤ 0) by refine decide_eq_decide.2 ?_; rw [← Rat.not_lt, ← Int.not_lt, p1], show decide (q ≤ t) = decide (v ≤ 0) by refine decide_eq_decide.2 ?_; rw [← Rat.not_lt, ← Int.not_lt, p2]]
  clear hu hv p1 p2
  refine ret_of_awp tab Tryz.func29 rfl rfl (Nat.le_of_ble_eq_true rfl) (fun w0 F0 => ?_)
  repeat' (first
    | (show awpL _ _ _ _ _; first | refine goL ?_ | refine cl 57 tt rfl rfl rfl (hr := t1) (k := ?_) | refine cl 57 tt rfl rfl rfl (hr := t2) (k := ?_) | refine cl 71 tt rfl rfl rfl (hr := h1) (k := ?_) | refine cl 71 tt rfl rfl rfl (hr := h2) (k := ?_) | (refine gdLD rfl rfl (fun _ => ?_) (fun _ => ?_) <;> try (exfalso; omega)) | (refine gdLN rfl rfl (fun _ => ?_) (fun _ => ?_) <;> try (exfalso; omega)) | refine gdL rfl rfl (fun _ => ?_) (fun _ => ?_))
    | (show awp _ _ _ _; first | refine goA ?_ | refine awp_reg 1 3 mixed (by kernel_rfl) (by kernel_rfl) ?_ | (refine awp_condD rfl (fun _ => ?_) (fun _ => ?_) <;> try (exfalso; omega)) | (refine awp_condN rfl (fun _ => ?_) (fun _ => ?_) <;> try (exfalso; omega)) | refine awp_cond rfl (fun _ => ?_) (fun _ => ?_))
    | (show andThen _ _ _ _; first | refine goN ?_)
    | (show inBlock _ _ _ _; first | refine goB ?_)
    | (show awpR _ _ _ _ _ _; first | refine goR ?_ | refine clR 57 tt rfl rfl rfl (hr := t1) (k := ?_) | refine clR 57 tt rfl rfl rfl (hr := t2) (k := ?_) | refine clR 71 tt rfl rfl rfl (hr := h1) (k := ?_) | refine clR 71 tt rfl rfl rfl (hr := h2) (k := ?_) | (refine gdRD rfl rfl (fun _ => ?_) (fun _ => ?_) <;> try (exfalso; omega)) | (refine gdRN rfl rfl (fun _ => ?_) (fun _ => ?_) <;> try (exfalso; omega)) | refine gdR rfl rfl (fun _ => ?_) (fun _ => ?_))
    | (show retPost _ _ _ _ _; first | refine finF true rfl rfl sc ?_ | refine finF false rfl rfl sc ?_ | refine finC false rfl rfl sc sc ?_ | refine finN rfl rfl sc ?_ | refine finL true rfl rfl sc rfl (LeR.cons rfl leL LeR.nil) ?_ | refine finE true rfl rfl sc ?_ | refine finE false rfl rfl sc ?_))
  all_goals first | rfl | (rename_i hc; simp [hc])
theorem interval_WithinI (i j : I2) (hi : i.1 ≤ i.2) (hj : j.1 ≤ j.2) (oi : okI 50000 i) (oj : okI 50000 j) : Ret Tryz.prog 29 [iQ i, iQ j] (· = .bool (withinI i j)) := by
  have := interval_Within (rq i.1) (rq i.2) (rq j.1) (rq j.2) (ok_rq oi.1) (ok_rq oi.2) (ok_rq oj.1) (ok_rq oj.2)
  rw [rv_rq, rv_rq, rv_rq, rv_rq, takeI_of hi, takeI_of hj] at this
  exact this
theorem interval_Add (a b c d : R3) (ha : RatOk a 50000) (hb : RatOk b 50000) (hc : RatOk c 50000) (hd : RatOk d 50000) : Ret Tryz.prog 30 [iD a b, iD c d] (· = iQ (addI (takeI (rv a) (rv b)) (takeI (rv c) (rv d)))) := by
  have t1 := interval_value a b ha hb
  have o1 := takeI_ok (k := 50000) (okQ_rv ha (by decide)) (okQ_rv hb (by decide)) (by decide)
  have q1 := takeI_le (rv a) (rv b)
  generalize takeI (rv a) (rv b) = i at *
  obtain ⟨p, q⟩ := i
  obtain ⟨op, oq⟩ := o1
  simp only at op oq q1
  have t2 := interval_value c d hc hd
  have o2 := takeI_ok (k := 50000) (okQ_rv hc (by decide)) (okQ_rv hd (by decide)) (by decide)
  have q2 := takeI_le (rv c) (rv d)
  generalize takeI (rv c) (rv d) = j at *
  obtain ⟨s, t⟩ := j
  obtain ⟨os, ot⟩ := o2
  simp only at os ot q2
  have m1 := rational_AddQ p s (op.mono (by decide)) (os.mono (by decide))
  have m2 := rational_AddQ q t (oq.mono (by decide)) (ot.mono (by decide))
  refine ret_of_awp tab Tryz.func30 rfl rfl (Nat.le_of_ble_eq_true rfl) (fun w0 F0 => ?_)
  repeat' (first
    | (show awpL _ _ _ _ _; first | refine goL ?_ | refine cl 57 tt rfl rfl rfl (hr := t1) (k := ?_) | refine cl 57 tt rfl rfl rfl (hr := t2) (k := ?_) | refine cl 74 tt rfl rfl rfl (hr := m1) (k := ?_) | refine cl 74 tt rfl rfl rfl (hr := m2) (k := ?_) | (refine gdLD rfl rfl (fun _ => ?_) (fun _ => ?_) <;> try (exfalso; omega)) | (refine gdLN rfl rfl (fun _ => ?_) (fun _ => ?_) <;> try (exfalso; omega)) | refine gdL rfl rfl (fun _ => ?_) (fun _ => ?_))
    | (show awp _ _ _ _; first | refine goA ?_ | refine awp_reg 1 3 mixed (by kernel_rfl) (by kernel_rfl) ?_ | refine awp_reg 2 9 mixed (by kernel_rfl) (by kernel_rfl) ?_ | (refine awp_condD rfl (fun _ => ?_) (fun _ => ?_) <;> try (exfalso; omega)) | (refine awp_condN rfl (fun _ => ?_) (fun _ => ?_) <;> try (exfalso; omega)) | refine awp_cond rfl (fun _ => ?_) (fun _ => ?_))
    | (show andThen _ _ _ _; first | refine goN ?_)
    | (show inBlock _ _ _ _; first | refine goB ?_)
    | (show awpR _ _ _ _ _ _; first | refine goR ?_ | refine clR 57 tt rfl rfl rfl (hr := t1) (k := ?_) | refine clR 57 tt rfl rfl rfl (hr := t2) (k := ?_) | refine clR 74 tt rfl rfl rfl (hr := m1) (k := ?_) | refine clR 74 tt rfl rfl rfl (hr := m2) (k := ?_) | (refine gdRD rfl rfl (fun _ => ?_) (fun _ => ?_) <;> try (exfalso; omega)) | (refine gdRN rfl rfl (fun _ => ?_) (fun _ => ?_) <;> try (exfalso; omega)) | refine gdR rfl rfl (fun _ => ?_) (fun _ => ?_))
    | (show retPost _ _ _ _ _; first | refine finF true rfl rfl sc ?_ | refine finF false rfl rfl sc ?_ | refine finC false rfl rfl sc sc ?_ | refine finN rfl rfl sc ?_ | refine finL true rfl rfl sc rfl (LeR.cons rfl leL LeR.nil) ?_ | refine finE true rfl rfl sc ?_ | refine finE false rfl rfl sc ?_))
  rfl
theorem interval_Sub (a b c d : R3) (ha : RatOk a 50000) (hb : RatOk b 50000) (hc : RatOk c 50000) (hd : RatOk d 50000) : Ret Tryz.prog 31 [iD a b, iD c d] (· = iQ (subI (takeI (rv a) (rv b)) (takeI (rv c) (rv d)))) := by
  have t1 := interval_value a b ha hb
  have o1 := takeI_ok (k := 50000) (okQ_rv ha (by decide)) (okQ_rv hb (by decide)) (by decide)
  have q1 := takeI_le (rv a) (rv b)
  generalize takeI (rv a) (rv b) = i at *
  obtain ⟨p, q⟩ := i
  obtain ⟨op, oq⟩ := o1
  simp only at op oq q1
  have t2 := interval_value c d hc hd
  have o2 := takeI_ok (k := 50000) (okQ_rv hc (by decide)) (okQ_rv hd (by decide)) (by decide)
  have q2 := takeI_le (rv c) (rv d)
  generalize takeI (rv c) (rv d) = j at *
  obtain ⟨s, t⟩ := j
  obtain ⟨os, ot⟩ := o2
  simp only at os ot q2
  have m1 := rational_SubQ p t (op.mono (by decide)) (ot.mono (by decide))
  have m2 := rational_SubQ q s (oq.mono (by decide)) (os.mono (by decide))
  refine ret_of_awp tab Tryz.func31 rfl rfl (Nat.le_of_ble_eq_true rfl) (fun w0 F0 => ?_)
  repeat' (first
    | (show awpL _ _ _ _ _; first | refine goL ?_ | refine cl 57 tt rfl rfl rfl (hr := t1) (k := ?_) | refine cl 57 tt rfl rfl rfl (hr := t2) (k := ?_) | refine cl 75 tt rfl rfl rfl (hr := m1) (k := ?_) | refine cl 75 tt rfl rfl rfl (hr := m2) (k := ?_) | (refine gdLD rfl rfl (fun _ => ?_) (fun _ => ?_) <;> try (exfalso; omega)) | (refine gdLN rfl rfl (fun _ => ?_) (fun _ => ?_) <;> try (exfalso; omega)) | refine gdL rfl rfl (fun _ => ?_) (fun _ => ?_))
    | (show awp _ _ _ _; first | refine goA ?_ | refine awp_reg 1 3 mixed (by kernel_rfl) (by kernel_rfl) ?_ | refine awp_reg 2 9 mixed (by kernel_rfl) (by kernel_rfl) ?_ | (refine awp_condD rfl (fun _ => ?_) (fun _ => ?_) <;> try (exfalso; omega)) | (refine awp_condN rfl (fun _ => ?_) (fun _ => ?_) <;> try (exfalso; omega)) | refine awp_cond rfl (fun _ => ?_) (fun _ => ?_))
    | (show andThen _ _ _ _; first | refine goN ?_)
    | (show inBlock _ _ _ _; first | refine goB ?_)
    | (show awpR _ _ _ _ _ _; first | refine goR ?_ | refine clR 57 tt rfl rfl rfl (hr := t1) (k := ?_) | refine clR 57 tt rfl rfl rfl (hr := t2) (k := ?_) | refine clR 75 tt rfl rfl rfl (hr := m1) (k := ?_) | refine clR 75 tt rfl rfl rfl (hr := m2) (k := ?_) | (refine gdRD rfl rfl (fun _ => ?_) (fun _ => ?_) <;> try (exfalso; omega)) | (refine gdRN rfl rfl (fun _ => ?_) (fun _ => ?_) <;> try (exfalso; omega)) | refine gdR rfl rfl (fun _ => ?_) (fun _ => ?_))
    | (show retPost _ _ _ _ _; first | refine finF true rfl rfl sc ?_ | refine finF false rfl rfl sc ?_ | refine finC false rfl rfl sc sc ?_ | refine finN rfl rfl sc ?_ | refine finL true rfl rfl sc rfl (LeR.cons rfl leL LeR.nil) ?_ | refine finE true rfl rfl sc ?_ | refine finE false rfl rfl sc ?_))
  rfl
theorem interval_Mul (a b c d : R3) (ha : RatOk a 50000) (hb : RatOk b 50000) (hc : RatOk c 50000) (hd : RatOk d 50000) : Ret Tryz.prog 13 [iD a b, iD c d] (· = iQ (mulI (takeI (rv a) (rv b)) (takeI (rv c) (rv d)))) := by
  have t1 := interval_value a b ha hb
  have o1 := takeI_ok (k := 50000) (okQ_rv ha (by decide)) (okQ_rv hb (by decide)) (by decide)
  have q1 := takeI_le (rv a) (rv b)
  generalize takeI (rv a) (rv b) = i at *
  obtain ⟨p, q⟩ := i
  obtain ⟨op, oq⟩ := o1
  simp only at op oq q1
  have t2 := interval_value c d hc hd
  have o2 := takeI_ok (k := 50000) (okQ_rv hc (by decide)) (okQ_rv hd (by decide)) (by decide)
  have q2 := takeI_le (rv c) (rv d)
  generalize takeI (rv c) (rv d) = j at *
  obtain ⟨s, t⟩ := j
  obtain ⟨os, ot⟩ := o2
  simp only at os ot q2
  have m1 := rational_MulQ p s (op.mono (by decide)) (os.mono (by decide))
  have m2 := rational_MulQ p t (op.mono (by decide)) (ot.mono (by decide))
  have m3 := rational_MulQ q s (oq.mono (by decide)) (os.mono (by decide))
  have m4 := rational_MulQ q t (oq.mono (by decide)) (ot.mono (by decide))
  have hh := interval_hull (p * s) [p * t, q * s, q * t] (by simp) (by
    intro x hx
    simp only [List.mem_cons, List.not_mem_nil, or_false] at hx
    rcases hx with h | h | h | h <;> rw [h]
    · exact (op.mul os).mono (by decide)
    · exact (op.mul ot).mono (by decide)
    · exact (oq.mul os).mono (by decide)
    · exact (oq.mul ot).mono (by decide))
  refine ret_of_awp tab Tryz.func13 rfl rfl (Nat.le_of_ble_eq_true rfl) (fun w0 F0 => ?_)
  repeat' (first
    | (show awpL _ _ _ _ _; first | refine goL ?_ | refine cl 57 tt rfl rfl rfl (hr := t1) (k := ?_) | refine cl 57 tt rfl rfl rfl (hr := t2) (k := ?_) | refine cl 59 tt rfl rfl rfl (hr := m1) (k := ?_) | refine cl 59 tt rfl rfl rfl (hr := m2) (k := ?_) | refine cl 59 tt rfl rfl rfl (hr := m3) (k := ?_) | refine cl 59 tt rfl rfl rfl (hr := m4) (k := ?_) | refine cl 58 tt rfl rfl rfl (hr := hh) (k := ?_) | (refine gdLD rfl rfl (fun _ => ?_) (fun _ => ?_) <;> try (exfalso; omega)) | (refine gdLN rfl rfl (fun _ => ?_) (fun _ => ?_) <;> try (exfalso; omega)) | refine gdL rfl rfl (fun _ => ?_) (fun _ => ?_))
    | (show awp _ _ _ _; first | refine goA ?_ | refine awp_reg 1 3 mixed (by kernel_rfl) (by kernel_rfl) ?_ | refine awp_reg 2 19 mixed (by kernel_rfl) (by kernel_rfl) ?_ | (refine awp_condD rfl (fun _ => ?_) (fun _ => ?_) <;> try (exfalso; omega)) | (refine awp_condN rfl (fun _ => ?_) (fun _ => ?_) <;> try (exfalso; omega)) | refine awp_cond rfl (fun _ => ?_) (fun _ => ?_))
    | (show andThen _ _ _ _; first | refine goN ?_)
    | (show inBlock _ _ _ _; first | refine goB ?_)
    | (show awpR _ _ _ _ _ _; first | refine goR ?_ | refine clR 57 tt rfl rfl rfl (hr := t1) (k := ?_) | refine clR 57 tt rfl rfl rfl (hr := t2) (k := ?_) | refine clR 59 tt rfl rfl rfl (hr := m1) (k := ?_) | refine clR 59 tt rfl rfl rfl (hr := m2) (k := ?_) | refine clR 59 tt rfl rfl rfl (hr := m3) (k := ?_) | refine clR 59 tt rfl rfl rfl (hr := m4) (k := ?_) | refine clR 58 tt rfl rfl rfl (hr := hh) (k := ?_) | (refine gdRD rfl rfl (fun _ => ?_) (fun _ => ?_) <;> try (exfalso; omega)) | (refine gdRN rfl rfl (fun _ => ?_) (fun _ => ?_) <;> try (exfalso; omega)) | refine gdR rfl rfl (fun _ => ?_) (fun _ => ?_))
    | (show retPost _ _ _ _ _; first | refine finF true rfl rfl sc ?_ | refine finF false rfl rfl sc ?_ | refine finC false rfl rfl sc sc ?_ | refine finN rfl rfl sc ?_ | refine finL true rfl rfl sc rfl (LeR.cons rfl leL LeR.nil) ?_ | refine finE true rfl rfl sc ?_ | refine finE false rfl rfl sc ?_))
  rfl
theorem interval_Div (a b c d : R3) (ha : RatOk a 50000) (hb : RatOk b 50000) (hc : RatOk c 20000) (hd : RatOk d 20000) : Ret Tryz.prog 38 [iD a b, iD c d] (· = if containsI (takeI (rv c) (rv d)) 0 then .tup [iD r0 r0, .int .i64 5] else .tup [iQ (divI (takeI (rv a) (rv b)) (takeI (rv c) (rv d))), .int .i64 0]) := by
  have t2 := interval_value c d (hc.up (by decide)) (hd.up (by decide))
  have o2 := takeI_ok (k := 20000) (okQ_rv hc (by decide)) (okQ_rv hd (by decide)) (by decide)
  have q2 := takeI_le (rv c) (rv d)
  generalize takeI (rv c) (rv d) = j at *
  obtain ⟨s, t⟩ := j
  obtain ⟨os, ot⟩ := o2
  simp only at os ot q2
  have hc0 := interval_ContainsI (s, t) q2 ⟨os.mono (by decide), ot.mono (by decide)⟩ r0 (ok_r0 (by decide))
  rw [rv_r0] at hc0
  cases hz : containsI (s, t) 0
  · rw [hz] at hc0
    rw [if_neg (by decide)]
    have hn := (in_inv hz (y := s) ⟨Rat.le_refl, q2⟩)
    have hn2 := (in_inv hz (y := t) ⟨q2, Rat.le_refl⟩)
    have hle : 1 / t ≤ 1 / s := hn.2.1
    have o1 : okQ 2 1 := ⟨by decide +kernel, by decide +kernel⟩
    have f1 := rational_FromIntQ 1 (by decide) (by decide)
    rw [show ((1 : Int) : Rat) = 1 from rfl] at f1
    have d1 := rational_DivQ 1 t (o1.mono (by decide)) (ot.mono (by decide))
    have d2 := rational_DivQ 1 s (o1.mono (by decide)) (os.mono (by decide))
    rw [if_neg hn2.1] at d1
    rw [if_neg hn.1] at d2
    have m1 := interval_Mul a b (rq (1 / t)) (rq (1 / s)) ha hb (ok_rq ((o1.div ot hn2.1).mono (by decide))) (ok_rq ((o1.div os hn.1).mono (by decide)))
    rw [rv_rq, rv_rq, takeI_of hle] at m1
    unfold divI
    simp only
    generalize 1 / t = x at *
    generalize 1 / s = y at *
    generalize mulI (takeI (rv a) (rv b)) (x, y) = z at *
    refine ret_of_awp tab Tryz.func38 rfl rfl (Nat.le_of_ble_eq_true rfl) (fun w0 F0 => ?_)
    repeat' (first
      | (show awpL _ _ _ _ _; first | refine goL ?_ | refine cl 57 tt rfl rfl rfl (hr := t2) (k := ?_) | refine cl 43 tt rfl rfl rfl (hr := hc0) (k := ?_) | refine cl 73 tt rfl rfl rfl (hr := f1) (k := ?_) | refine cl 69 tt rfl rfl rfl (hr := d1) (k := ?_) | refine cl 69 tt rfl rfl rfl (hr := d2) (k := ?_) | refine cl 13 tt rfl rfl rfl (hr := m1) (k := ?_) | (refine gdLD rfl rfl (fun _ => ?_) (fun _ => ?_) <;> try (exfalso; omega)) | (refine gdLN rfl rfl (fun _ => ?_) (fun _ => ?_) <;> try (exfalso; omega)) | refine gdL rfl rfl (fun _ => ?_) (fun _ => ?_))
      | (show awp _ _ _ _; first | refine goA ?_ | refine awp_regK 4 9 [6] mixed (by kernel_rfl) (by kernel_rfl) (by kernel_rfl) ?_ | refine awp_regK 5 9 [8] mixed (by kernel_rfl) (by kernel_rfl) (by kernel_rfl) ?_ | (refine awp_condD rfl (fun _ => ?_) (fun _ => ?_) <;> try (exfalso; omega)) | (refine awp_condN rfl (fun _ => ?_) (fun _ => ?_) <;> try (exfalso; omega)) | refine awp_cond rfl (fun _ => ?_) (fun _ => ?_))
      | (show andThen _ _ _ _; first | refine goN ?_)
      | (show inBlock _ _ _ _; first | refine goB ?_)
      | (show awpR _ _ _ _ _ _; first | refine goR ?_ | refine clR 57 tt rfl rfl rfl (hr := t2) (k := ?_) | refine clR 43 tt rfl rfl rfl (hr := hc0) (k := ?_) | refine clR 73 tt rfl rfl rfl (hr := f1) (k := ?_) | refine clR 69 tt rfl rfl rfl (hr := d1) (k := ?_) | refine clR 69 tt rfl rfl rfl (hr := d2) (k := ?_) | refine clR 13 tt rfl rfl rfl (hr := m1) (k := ?_) | (refine gdRD rfl rfl (fun _ => ?_) (fun _ => ?_) <;> try (exfalso; omega)) | (refine gdRN rfl rfl (fun _ => ?_) (fun _ => ?_) <;> try (exfalso; omega)) | refine gdR rfl rfl (fun _ => ?_) (fun _ => ?_))
      | (show retPost _ _ _ _ _; first | refine finF true rfl rfl sc ?_ | refine finF false rfl rfl sc ?_ | refine finC false rfl rfl sc sc ?_ | refine finN rfl rfl sc ?_ | refine finL true rfl rfl sc rfl (LeR.cons rfl leL LeR.nil) ?_ | refine finE true rfl rfl sc ?_ | refine finE false rfl rfl sc ?_))
    rfl
  · rw [hz] at hc0
    rw [if_pos rfl]
    refine ret_of_awp tab Tryz.func38 rfl rfl (Nat.le_of_ble_eq_true rfl) (fun w0 F0 => ?_)
    repeat' (first
      | (show awpL _ _ _ _ _; first | refine goL ?_ | refine cl 57 tt rfl rfl rfl (hr := t2) (k := ?_) | refine cl 43 tt rfl rfl rfl (hr := hc0) (k := ?_) | (refine gdLD rfl rfl (fun _ => ?_) (fun _ => ?_) <;> try (exfalso; omega)) | (refine gdLN rfl rfl (fun _ => ?_) (fun _ => ?_) <;> try (exfalso; omega)) | refine gdL rfl rfl (fun _ => ?_) (fun _ => ?_))
      | (show awp _ _ _ _; first | refine goA ?_ | refine awp_regK 4 9 [6] mixed (by kernel_rfl) (by kernel_rfl) (by kernel_rfl) ?_ | refine awp_regK 5 9 [8] mixed (by kernel_rfl) (by kernel_rfl) (by kernel_rfl) ?_ | (refine awp_condD rfl (fun _ => ?_) (fun _ => ?_) <;> try (exfalso; omega)) | (refine awp_condN rfl (fun _ => ?_) (fun _ => ?_) <;> try (exfalso; omega)) | refine awp_cond rfl (fun _ => ?_) (fun _ => ?_))
      | (show andThen _ _ _ _; first | refine goN ?_)
      | (show inBlock _ _ _ _; first | refine goB ?_)
      | (show awpR _ _ _ _ _ _; first | refine goR ?_ | refine clR 57 tt rfl rfl rfl (hr := t2) (k := ?_) | refine clR 43 tt rfl rfl rfl (hr := hc0) (k := ?_) | (refine gdRD rfl rfl (fun _ => ?_) (fun _ => ?_) <;> try (exfalso; omega)) | (refine gdRN rfl rfl (fun _ => ?_) (fun _ => ?_) <;> try (exfalso; omega)) | refine gdR rfl rfl (fun _ => ?_) (fun _ => ?_))
      | (show retPost _ _ _ _ _; first | refine finF true rfl rfl sc ?_ | refine finF false rfl rfl sc ?_ | refine finC false rfl rfl sc sc ?_ | refine finN rfl rfl sc ?_ | refine finL true rfl rfl sc rfl (LeR.cons rfl leL LeR.nil) ?_ | refine finT true rfl rfl sc ?_ | refine finT false rfl rfl sc ?_ | refine finE true rfl rfl sc ?_ | refine finE false rfl rfl sc ?_))
    exact leT
theorem interval_Square (a b : R3) (ha : RatOk a 50000) (hb : RatOk b 50000) : Ret Tryz.prog 14 [iD a b] (· = iQ (sqI (takeI (rv a) (rv b)))) := by
  have t1 := interval_value a b ha hb
  have o1 := takeI_ok (k := 50000) (okQ_rv ha (by decide)) (okQ_rv hb (by decide)) (by decide)
  have q1 := takeI_le (rv a) (rv b)
  generalize takeI (rv a) (rv b) = i at *
  obtain ⟨p, q⟩ := i
  obtain ⟨op, oq⟩ := o1
  simp only at op oq q1
  have hc0 := interval_ContainsI (p, q) q1 ⟨op, oq⟩ r0 (ok_r0 (by decide))
  rw [rv_r0] at hc0
  have m1 := rational_MulQ p p (op.mono (by decide)) (op.mono (by decide))
  have m2 := rational_MulQ q q (oq.mono (by decide)) (oq.mono (by decide))
  have hh := interval_hull (p * p) [q * q] (by simp) (by
    intro x hx
    simp only [List.mem_cons, List.not_mem_nil, or_false] at hx
    rcases hx with h | h <;> rw [h]
    · exact (op.mul op).mono (by decide)
    · exact (oq.mul oq).mono (by decide))
  unfold sqI
  simp only
  cases hz : containsI (p, q) 0
  · rw [hz] at hc0
    rw [if_neg (by decide)]
    generalize hullL (p * p) [q * q] = z at *
    refine ret_of_awp tab Tryz.func14 rfl rfl (Nat.le_of_ble_eq_true rfl) (fun w0 F0 => ?_)
    repeat' (first
      | (show awpL _ _ _ _ _; first | refine goL ?_ | refine cl 57 tt rfl rfl rfl (hr := t1) (k := ?_) | refine cl 43 tt rfl rfl rfl (hr := hc0) (k := ?_) | refine cl 59 tt rfl rfl rfl (hr := m1) (k := ?_) | refine cl 59 tt rfl rfl rfl (hr := m2) (k := ?_) | refine cl 58 tt rfl rfl rfl (hr := hh) (k := ?_) | (refine gdLD rfl rfl (fun _ => ?_) (fun _ => ?_) <;> try (exfalso; omega)) | (refine gdLN rfl rfl (fun _ => ?_) (fun _ => ?_) <;> try (exfalso; omega)) | refine gdL rfl rfl (fun _ => ?_) (fun _ => ?_))
      | (show awp _ _ _ _; first | refine goA ?_ | refine awp_regK 2 13 [3] mixed (by kernel_rfl) (by kernel_rfl) (by kernel_rfl) ?_ | (refine awp_condD rfl (fun _ => ?_) (fun _ => ?_) <;> try (exfalso; omega)) | (refine awp_condN rfl (fun _ => ?_) (fun _ => ?_) <;> try (exfalso; omega)) | refine awp_cond rfl (fun _ => ?_) (fun _ => ?_))
      | (show andThen _ _ _ _; first | refine goN ?_)
      | (show inBlock _ _ _ _; first | refine goB ?_)
      | (show awpR _ _ _ _ _ _; first | refine goR ?_ | refine clR 57 tt rfl rfl rfl (hr := t1) (k := ?_) | refine clR 43 tt rfl rfl rfl (hr := hc0) (k := ?_) | refine clR 59 tt rfl rfl rfl (hr := m1) (k := ?_) | refine clR 59 tt rfl rfl rfl (hr := m2) (k := ?_) | refine clR 58 tt rfl rfl rfl (hr := hh) (k := ?_) | (refine gdRD rfl rfl (fun _ => ?_) (fun _ => ?_) <;> try (exfalso; omega)) | (refine gdRN rfl rfl (fun _ => ?_) (fun _ => ?_) <;> try (exfalso; omega)) | refine gdR rfl rfl (fun _ => ?_) (fun _ => ?_))
      | (show retPost _ _ _ _ _; first | refine finF true rfl rfl sc ?_ | refine finF false rfl rfl sc ?_ | refine finC false rfl rfl sc sc ?_ | refine finN rfl rfl sc ?_ | refine finL true rfl rfl sc rfl (LeR.cons rfl leL LeR.nil) ?_ | refine finE true rfl rfl sc ?_ | refine finE false rfl rfl sc ?_))
    rfl
  · rw [hz] at hc0
    rw [if_pos rfl]
    unfold iQ
    simp only
    rw [rq_zero]
    generalize hullL (p * p) [q * q] = z at *
    refine ret_of_awp tab Tryz.func14 rfl rfl (Nat.le_of_ble_eq_true rfl) (fun w0 F0 => ?_)
    repeat' (first
      | (show awpL _ _ _ _ _; first | refine goL ?_ | refine cl 57 tt rfl rfl rfl (hr := t1) (k := ?_) | refine cl 43 tt rfl rfl rfl (hr := hc0) (k := ?_) | refine cl 59 tt rfl rfl rfl (hr := m1) (k := ?_) | refine cl 59 tt rfl rfl rfl (hr := m2) (k := ?_) | refine cl 58 tt rfl rfl rfl (hr := hh) (k := ?_) | (refine gdLD rfl rfl (fun _ => ?_) (fun _ => ?_) <;> try (exfalso; omega)) | (refine gdLN rfl rfl (fun _ => ?_) (fun _ => ?_) <;> try (exfalso; omega)) | refine gdL rfl rfl (fun _ => ?_) (fun _ => ?_))
      | (show awp _ _ _ _; first | refine goA ?_ | refine awp_regK 2 13 [3] mixed (by kernel_rfl) (by kernel_rfl) (by kernel_rfl) ?_ | (refine awp_condD rfl (fun _ => ?_) (fun _ => ?_) <;> try (exfalso; omega)) | (refine awp_condN rfl (fun _ => ?_) (fun _ => ?_) <;> try (exfalso; omega)) | refine awp_cond rfl (fun _ => ?_) (fun _ => ?_))
      | (show andThen _ _ _ _; first | refine goN ?_)
      | (show inBlock _ _ _ _; first | refine goB ?_)
      | (show awpR _ _ _ _ _ _; first | refine goR ?_ | refine clR 57 tt rfl rfl rfl (hr := t1) (k := ?_) | refine clR 43 tt rfl rfl rfl (hr := hc0) (k := ?_) | refine clR 59 tt rfl rfl rfl (hr := m1) (k := ?_) | refine clR 59 tt rfl rfl rfl (hr := m2) (k := ?_) | refine clR 58 tt rfl rfl rfl (hr := hh) (k := ?_) | (refine gdRD rfl rfl (fun _ => ?_) (fun _ => ?_) <;> try (exfalso; omega)) | (refine gdRN rfl rfl (fun _ => ?_) (fun _ => ?_) <;> try (exfalso; omega)) | refine gdR rfl rfl (fun _ => ?_) (fun _ => ?_))
      | (show retPost _ _ _ _ _; first | refine finF true rfl rfl sc ?_ | refine finF false rfl rfl sc ?_ | refine finC false rfl rfl sc sc ?_ | refine finN rfl rfl sc ?_ | refine finL true rfl rfl sc rfl (LeR.cons rfl leL LeR.nil) ?_ | refine finA true rfl rfl sc ?_ | refine finA false rfl rfl sc ?_ | refine finE true rfl rfl sc ?_ | refine finE false rfl rfl sc ?_))
    exact leL
theorem interval_Hull (a b c d : R3) (ha : RatOk a 50000) (hb : RatOk b 50000) (hc : RatOk c 50000) (hd : RatOk d 50000) : Ret Tryz.prog 36 [iD a b, iD c d] (· = iQ (hullI (takeI (rv a) (rv b)) (takeI (rv c) (rv d)))) := by
  have t1 := interval_value a b ha hb
  have o1 := takeI_ok (k := 50000) (okQ_rv ha (by decide)) (okQ_rv hb (by decide)) (by decide)
  have q1 := takeI_le (rv a) (rv b)
  generalize takeI (rv a) (rv b) = i at *
  obtain ⟨p, q⟩ := i
  obtain ⟨op, oq⟩ := o1
  simp only at op oq q1
  have t2 := interval_value c d hc hd
  have o2 := takeI_ok (k := 50000) (okQ_rv hc (by decide)) (okQ_rv hd (by decide)) (by decide)
  have q2 := takeI_le (rv c) (rv d)
  generalize takeI (rv c) (rv d) = j at *
  obtain ⟨s, t⟩ := j
  obtain ⟨os, ot⟩ := o2
  simp only at os ot q2
  have hh := interval_hull p [q, s, t] (by simp) (by
    intro x hx
    simp only [List.mem_cons, List.not_mem_nil, or_false] at hx
    rcases hx with h | h | h | h <;> rw [h]
    · exact op.mono (by decide)
    · exact oq.mono (by decide)
    · exact os.mono (by decide)
    · exact ot.mono (by decide))
  refine ret_of_awp tab Tryz.func36 rfl rfl (Nat.le_of_ble_eq_true rfl) (fun w0 F0 => ?_)
  repeat' (first
    | (show awpL _ _ _ _ _; first | refine goL ?_ | refine cl 57 tt rfl rfl rfl (hr := t1) (k := ?_) | refine cl 57 tt rfl rfl rfl (hr := t2) (k := ?_) | refine cl 58 tt rfl rfl rfl (hr := hh) (k := ?_) | (refine gdLD rfl rfl (fun _ => ?_) (fun _ => ?_) <;> try (exfalso; omega)) | (refine gdLN rfl rfl (fun _ => ?_) (fun _ => ?_) <;> try (exfalso; omega)) | refine gdL rfl rfl (fun _ => ?_) (fun _ => ?_))
    | (show awp _ _ _ _; first | refine goA ?_ | refine awp_reg 1 3 mixed (by kernel_rfl) (by kernel_rfl) ?_ | (refine awp_condD rfl (fun _ => ?_) (fun _ => ?_) <;> try (exfalso; omega)) | (refine awp_condN rfl (fun _ => ?_) (fun _ => ?_) <;> try (exfalso; omega)) | refine awp_cond rfl (fun _ => ?_) (fun _ => ?_))
    | (show andThen _ _ _ _; first | refine goN ?_)
    | (show inBlock _ _ _ _; first | refine goB ?_)
    | (show awpR _ _ _ _ _ _; first | refine goR ?_ | refine clR 57 tt rfl rfl rfl (hr := t1) (k := ?_) | refine clR 57 tt rfl rfl rfl (hr := t2) (k := ?_) | refine clR 58 tt rfl rfl rfl (hr := hh) (k := ?_) | (refine gdRD rfl rfl (fun _ => ?_) (fun _ => ?_) <;> try (exfalso; omega)) | (refine gdRN rfl rfl (fun _ => ?_) (fun _ => ?_) <;> try (exfalso; omega)) | refine gdR rfl rfl (fun _ => ?_) (fun _ => ?_))
    | (show retPost _ _ _ _ _; first | refine finF true rfl rfl sc ?_ | refine finF false rfl rfl sc ?_ | refine finC false rfl rfl sc sc ?_ | refine finN rfl rfl sc ?_ | refine finL true rfl rfl sc rfl (LeR.cons rfl leL LeR.nil) ?_ | refine finE true rfl rfl sc ?_ | refine finE false rfl rfl sc ?_))
  rfl
theorem interval_Meet (a b c d : R3) (ha : RatOk a 50000) (hb : RatOk b 50000) (hc : RatOk c 50000) (hd : RatOk d 50000) : Ret Tryz.prog 32 [iD a b, iD c d] (· = match meetI (takeI (rv a) (rv b)) (takeI (rv c) (rv d)) with | none => .tup [iD r0 r0, .bool false] | some m => .tup [iQ m, .bool true]) := by
  have t1 := interval_value a b ha hb
  have o1 := takeI_ok (k := 50000) (okQ_rv ha (by decide)) (okQ_rv hb (by decide)) (by decide)
  have q1 := takeI_le (rv a) (rv b)
  generalize takeI (rv a) (rv b) = i at *
  obtain ⟨p, q⟩ := i
  obtain ⟨op, oq⟩ := o1
  simp only at op oq q1
  have t2 := interval_value c d hc hd
  have o2 := takeI_ok (k := 50000) (okQ_rv hc (by decide)) (okQ_rv hd (by decide)) (by decide)
  have q2 := takeI_le (rv c) (rv d)
  generalize takeI (rv c) (rv d) = j at *
  obtain ⟨s, t⟩ := j
  obtain ⟨os, ot⟩ := o2
  simp only at os ot q2
  have c1 := rational_CompareQ p s (op.mono (by decide)) (os.mono (by decide))
  have c2 := rational_CompareQ q t (oq.mono (by decide)) (ot.mono (by decide))
  have o3 := okQ_maxQ op os
  have o4 := okQ_minQ oq ot
  have mk := interval_Make (rq (maxQ p s)) (rq (minQ q t)) (ok_rq o3) (ok_rq o4)
  rw [rv_rq, rv_rq] at mk
  have p1 := cmpQ_neg p s
  have p2 := cmpQ_pos q t
  obtain ⟨u, hu⟩ : ∃ u, cmpQ p s = u := ⟨_, rfl⟩
  obtain ⟨v, hv⟩ : ∃ v, cmpQ q t = v := ⟨_, rfl⟩
  rw [hu] at c1 p1
  rw [hv] at c2 p2
  have e1 : maxQ p s = if p < s then s else p := rfl
  have e2 : minQ q t = if t < q then t else q := rfl
  unfold meetI
  simp only
  rw [e1, e2] at mk ⊢
  clear hu hv e1 e2 o3 o4
  by_cases b1 : p < s <;> by_cases b2 : t < q
  all_goals
    first | rw [if_pos b1] at mk ⊢ | rw [if_neg b1] at mk ⊢
    first | rw [if_pos b2] at mk ⊢ | rw [if_neg b2] at mk ⊢
    rw [← p1] at b1
    rw [← p2] at b2
    clear p1 p2
  · by_cases h : t < s
    · rw [if_pos h] at mk ⊢
      refine ret_of_awp tab Tryz.func32 rfl rfl (Nat.le_of_ble_eq_true rfl) (fun w0 F0 => ?_)
      repeat' (first
        | (show awpL _ _ _ _ _; first | refine goL ?_ | refine cl 57 tt rfl rfl rfl (hr := t1) (k := ?_) | refine cl 57 tt rfl rfl rfl (hr := t2) (k := ?_) | refine cl 71 tt rfl rfl rfl (hr := c1) (k := ?_) | refine cl 71 tt rfl rfl rfl (hr := c2) (k := ?_) | refine cl 47 tt rfl rfl rfl (hr := mk) (k := ?_) | (refine gdLD rfl rfl (fun _ => ?_) (fun _ => ?_) <;> try (exfalso; omega)) | (refine gdLN rfl rfl (fun _ => ?_) (fun _ => ?_) <;> try (exfalso; omega)) | refine gdL rfl rfl (fun _ => ?_) (fun _ => ?_))
        | (show awp _ _ _ _; first | refine goA ?_ | refine awp_reg 1 3 mixed (by kernel_rfl) (by kernel_rfl) ?_ | (refine awp_condD rfl (fun _ => ?_) (fun _ => ?_) <;> try (exfalso; omega)) | (refine awp_condN rfl (fun _ => ?_) (fun _ => ?_) <;> try (exfalso; omega)) | refine awp_cond rfl (fun _ => ?_) (fun _ => ?_))
        | (show andThen _ _ _ _; first | refine goN ?_)
        | (show inBlock _ _ _ _; first | refine goB ?_)
        | (show awpR _ _ _ _ _ _; first | refine goR ?_ | refine clR 57 tt rfl rfl rfl (hr := t1) (k := ?_) | refine clR 57 tt rfl rfl rfl (hr := t2) (k := ?_) | refine clR 71 tt rfl rfl rfl (hr := c1) (k := ?_) | refine clR 71 tt rfl rfl rfl (hr := c2) (k := ?_) | refine clR 47 tt rfl rfl rfl (hr := mk) (k := ?_) | (refine gdRD rfl rfl (fun _ => ?_) (fun _ => ?_) <;> try (exfalso; omega)) | (refine gdRN rfl rfl (fun _ => ?_) (fun _ => ?_) <;> try (exfalso; omega)) | refine gdR rfl rfl (fun _ => ?_) (fun _ => ?_))
        | (show retPost _ _ _ _ _; first | refine finF true rfl rfl sc ?_ | refine finF false rfl rfl sc ?_ | refine finC false rfl rfl sc sc ?_ | refine finN rfl rfl sc ?_ | refine finL true rfl rfl sc rfl (LeR.cons rfl leL LeR.nil) ?_ | refine finT true rfl rfl sc ?_ | refine finT false rfl rfl sc ?_ | refine finE true rfl rfl sc ?_ | refine finE false rfl rfl sc ?_))
      all_goals exact leT
    · rw [if_neg h] at mk ⊢
      refine ret_of_awp tab Tryz.func32 rfl rfl (Nat.le_of_ble_eq_true rfl) (fun w0 F0 => ?_)
      repeat' (first
        | (show awpL _ _ _ _ _; first | refine goL ?_ | refine cl 57 tt rfl rfl rfl (hr := t1) (k := ?_) | refine cl 57 tt rfl rfl rfl (hr := t2) (k := ?_) | refine cl 71 tt rfl rfl rfl (hr := c1) (k := ?_) | refine cl 71 tt rfl rfl rfl (hr := c2) (k := ?_) | refine cl 47 tt rfl rfl rfl (hr := mk) (k := ?_) | (refine gdLD rfl rfl (fun _ => ?_) (fun _ => ?_) <;> try (exfalso; omega)) | (refine gdLN rfl rfl (fun _ => ?_) (fun _ => ?_) <;> try (exfalso; omega)) | refine gdL rfl rfl (fun _ => ?_) (fun _ => ?_))
        | (show awp _ _ _ _; first | refine goA ?_ | refine awp_reg 1 3 mixed (by kernel_rfl) (by kernel_rfl) ?_ | (refine awp_condD rfl (fun _ => ?_) (fun _ => ?_) <;> try (exfalso; omega)) | (refine awp_condN rfl (fun _ => ?_) (fun _ => ?_) <;> try (exfalso; omega)) | refine awp_cond rfl (fun _ => ?_) (fun _ => ?_))
        | (show andThen _ _ _ _; first | refine goN ?_)
        | (show inBlock _ _ _ _; first | refine goB ?_)
        | (show awpR _ _ _ _ _ _; first | refine goR ?_ | refine clR 57 tt rfl rfl rfl (hr := t1) (k := ?_) | refine clR 57 tt rfl rfl rfl (hr := t2) (k := ?_) | refine clR 71 tt rfl rfl rfl (hr := c1) (k := ?_) | refine clR 71 tt rfl rfl rfl (hr := c2) (k := ?_) | refine clR 47 tt rfl rfl rfl (hr := mk) (k := ?_) | (refine gdRD rfl rfl (fun _ => ?_) (fun _ => ?_) <;> try (exfalso; omega)) | (refine gdRN rfl rfl (fun _ => ?_) (fun _ => ?_) <;> try (exfalso; omega)) | refine gdR rfl rfl (fun _ => ?_) (fun _ => ?_))
        | (show retPost _ _ _ _ _; first | refine finF true rfl rfl sc ?_ | refine finF false rfl rfl sc ?_ | refine finC false rfl rfl sc sc ?_ | refine finN rfl rfl sc ?_ | refine finL true rfl rfl sc rfl (LeR.cons rfl leL LeR.nil) ?_ | refine finE true rfl rfl sc ?_ | refine finE false rfl rfl sc ?_))
      all_goals rfl
  · by_cases h : q < s
    · rw [if_pos h] at mk ⊢
      refine ret_of_awp tab Tryz.func32 rfl rfl (Nat.le_of_ble_eq_true rfl) (fun w0 F0 => ?_)
      repeat' (first
        | (show awpL _ _ _ _ _; first | refine goL ?_ | refine cl 57 tt rfl rfl rfl (hr := t1) (k := ?_) | refine cl 57 tt rfl rfl rfl (hr := t2) (k := ?_) | refine cl 71 tt rfl rfl rfl (hr := c1) (k := ?_) | refine cl 71 tt rfl rfl rfl (hr := c2) (k := ?_) | refine cl 47 tt rfl rfl rfl (hr := mk) (k := ?_) | (refine gdLD rfl rfl (fun _ => ?_) (fun _ => ?_) <;> try (exfalso; omega)) | (refine gdLN rfl rfl (fun _ => ?_) (fun _ => ?_) <;> try (exfalso; omega)) | refine gdL rfl rfl (fun _ => ?_) (fun _ => ?_))
        | (show awp _ _ _ _; first | refine goA ?_ | refine awp_reg 1 3 mixed (by kernel_rfl) (by kernel_rfl) ?_ | (refine awp_condD rfl (fun _ => ?_) (fun _ => ?_) <;> try (exfalso; omega)) | (refine awp_condN rfl (fun _ => ?_) (fun _ => ?_) <;> try (exfalso; omega)) | refine awp_cond rfl (fun _ => ?_) (fun _ => ?_))
        | (show andThen _ _ _ _; first | refine goN ?_)
        | (show inBlock _ _ _ _; first | refine goB ?_)
        | (show awpR _ _ _ _ _ _; first | refine goR ?_ | refine clR 57 tt rfl rfl rfl (hr := t1) (k := ?_) | refine clR 57 tt rfl rfl rfl (hr := t2) (k := ?_) | refine clR 71 tt rfl rfl rfl (hr := c1) (k := ?_) | refine clR 71 tt rfl rfl rfl (hr := c2) (k := ?_) | refine clR 47 tt rfl rfl rfl (hr := mk) (k := ?_) | (refine gdRD rfl rfl (fun _ => ?_) (fun _ => ?_) <;> try (exfalso; omega)) | (refine gdRN rfl rfl (fun _ => ?_) (fun _ => ?_) <;> try (exfalso; omega)) | refine gdR rfl rfl (fun _ => ?_) (fun _ => ?_))
        | (show retPost _ _ _ _ _; first | refine finF true rfl rfl sc ?_ | refine finF false rfl rfl sc ?_ | refine finC false rfl rfl sc sc ?_ | refine finN rfl rfl sc ?_ | refine finL true rfl rfl sc rfl (LeR.cons rfl leL LeR.nil) ?_ | refine finT true rfl rfl sc ?_ | refine finT false rfl rfl sc ?_ | refine finE true rfl rfl sc ?_ | refine finE false rfl rfl sc ?_))
      all_goals exact leT
    · rw [if_neg h] at mk ⊢
      refine ret_of_awp tab Tryz.func32 rfl rfl (Nat.le_of_ble_eq_true rfl) (fun w0 F0 => ?_)
      repeat' (first
        | (show awpL _ _ _ _ _; first | refine goL ?_ | refine cl 57 tt rfl rfl rfl (hr := t1) (k := ?_) | refine cl 57 tt rfl rfl rfl (hr := t2) (k := ?_) | refine cl 71 tt rfl rfl rfl (hr := c1) (k := ?_) | refine cl 71 tt rfl rfl rfl (hr := c2) (k := ?_) | refine cl 47 tt rfl rfl rfl (hr := mk) (k := ?_) | (refine gdLD rfl rfl (fun _ => ?_) (fun _ => ?_) <;> try (exfalso; omega)) | (refine gdLN rfl rfl (fun _ => ?_) (fun _ => ?_) <;> try (exfalso; omega)) | refine gdL rfl rfl (fun _ => ?_) (fun _ => ?_))
        | (show awp _ _ _ _; first | refine goA ?_ | refine awp_reg 1 3 mixed (by kernel_rfl) (by kernel_rfl) ?_ | (refine awp_condD rfl (fun _ => ?_) (fun _ => ?_) <;> try (exfalso; omega)) | (refine awp_condN rfl (fun _ => ?_) (fun _ => ?_) <;> try (exfalso; omega)) | refine awp_cond rfl (fun _ => ?_) (fun _ => ?_))
        | (show andThen _ _ _ _; first | refine goN ?_)
        | (show inBlock _ _ _ _; first | refine goB ?_)
        | (show awpR _ _ _ _ _ _; first | refine goR ?_ | refine clR 57 tt rfl rfl rfl (hr := t1) (k := ?_) | refine clR 57 tt rfl rfl rfl (hr := t2) (k := ?_) | refine clR 71 tt rfl rfl rfl (hr := c1) (k := ?_) | refine clR 71 tt rfl rfl rfl (hr := c2) (k := ?_) | refine clR 47 tt rfl rfl rfl (hr := mk) (k := ?_) | (refine gdRD rfl rfl (fun _ => ?_) (fun _ => ?_) <;> try (exfalso; omega)) | (refine gdRN rfl rfl (fun _ => ?_) (fun _ => ?_) <;> try (exfalso; omega)) | refine gdR rfl rfl (fun _ => ?_) (fun _ => ?_))
        | (show retPost _ _ _ _ _; first | refine finF true rfl rfl sc ?_ | refine finF false rfl rfl sc ?_ | refine finC false rfl rfl sc sc ?_ | refine finN rfl rfl sc ?_ | refine finL true rfl rfl sc rfl (LeR.cons rfl leL LeR.nil) ?_ | refine finE true rfl rfl sc ?_ | refine finE false rfl rfl sc ?_))
      all_goals rfl
  · by_cases h : t < p
    · rw [if_pos h] at mk ⊢
      refine ret_of_awp tab Tryz.func32 rfl rfl (Nat.le_of_ble_eq_true rfl) (fun w0 F0 => ?_)
      repeat' (first
        | (show awpL _ _ _ _ _; first | refine goL ?_ | refine cl 57 tt rfl rfl rfl (hr := t1) (k := ?_) | refine cl 57 tt rfl rfl rfl (hr := t2) (k := ?_) | refine cl 71 tt rfl rfl rfl (hr := c1) (k := ?_) | refine cl 71 tt rfl rfl rfl (hr := c2) (k := ?_) | refine cl 47 tt rfl rfl rfl (hr := mk) (k := ?_) | (refine gdLD rfl rfl (fun _ => ?_) (fun _ => ?_) <;> try (exfalso; omega)) | (refine gdLN rfl rfl (fun _ => ?_) (fun _ => ?_) <;> try (exfalso; omega)) | refine gdL rfl rfl (fun _ => ?_) (fun _ => ?_))
        | (show awp _ _ _ _; first | refine goA ?_ | refine awp_reg 1 3 mixed (by kernel_rfl) (by kernel_rfl) ?_ | (refine awp_condD rfl (fun _ => ?_) (fun _ => ?_) <;> try (exfalso; omega)) | (refine awp_condN rfl (fun _ => ?_) (fun _ => ?_) <;> try (exfalso; omega)) | refine awp_cond rfl (fun _ => ?_) (fun _ => ?_))
        | (show andThen _ _ _ _; first | refine goN ?_)
        | (show inBlock _ _ _ _; first | refine goB ?_)
        | (show awpR _ _ _ _ _ _; first | refine goR ?_ | refine clR 57 tt rfl rfl rfl (hr := t1) (k := ?_) | refine clR 57 tt rfl rfl rfl (hr := t2) (k := ?_) | refine clR 71 tt rfl rfl rfl (hr := c1) (k := ?_) | refine clR 71 tt rfl rfl rfl (hr := c2) (k := ?_) | refine clR 47 tt rfl rfl rfl (hr := mk) (k := ?_) | (refine gdRD rfl rfl (fun _ => ?_) (fun _ => ?_) <;> try (exfalso; omega)) | (refine gdRN rfl rfl (fun _ => ?_) (fun _ => ?_) <;> try (exfalso; omega)) | refine gdR rfl rfl (fun _ => ?_) (fun _ => ?_))
        | (show retPost _ _ _ _ _; first | refine finF true rfl rfl sc ?_ | refine finF false rfl rfl sc ?_ | refine finC false rfl rfl sc sc ?_ | refine finN rfl rfl sc ?_ | refine finL true rfl rfl sc rfl (LeR.cons rfl leL LeR.nil) ?_ | refine finT true rfl rfl sc ?_ | refine finT false rfl rfl sc ?_ | refine finE true rfl rfl sc ?_ | refine finE false rfl rfl sc ?_))
      all_goals exact leT
    · rw [if_neg h] at mk ⊢
      refine ret_of_awp tab Tryz.func32 rfl rfl (Nat.le_of_ble_eq_true rfl) (fun w0 F0 => ?_)
      repeat' (first
        | (show awpL _ _ _ _ _; first | refine goL ?_ | refine cl 57 tt rfl rfl rfl (hr := t1) (k := ?_) | refine cl 57 tt rfl rfl rfl (hr := t2) (k := ?_) | refine cl 71 tt rfl rfl rfl (hr := c1) (k := ?_) | refine cl 71 tt rfl rfl rfl (hr := c2) (k := ?_) | refine cl 47 tt rfl rfl rfl (hr := mk) (k := ?_) | (refine gdLD rfl rfl (fun _ => ?_) (fun _ => ?_) <;> try (exfalso; omega)) | (refine gdLN rfl rfl (fun _ => ?_) (fun _ => ?_) <;> try (exfalso; omega)) | refine gdL rfl rfl (fun _ => ?_) (fun _ => ?_))
        | (show awp _ _ _ _; first | refine goA ?_ | refine awp_reg 1 3 mixed (by kernel_rfl) (by kernel_rfl) ?_ | (refine awp_condD rfl (fun _ => ?_) (fun _ => ?_) <;> try (exfalso; omega)) | (refine awp_condN rfl (fun _ => ?_) (fun _ => ?_) <;> try (exfalso; omega)) | refine awp_cond rfl (fun _ => ?_) (fun _ => ?_))
        | (show andThen _ _ _ _; first | refine goN ?_)
        | (show inBlock _ _ _ _; first | refine goB ?_)
        | (show awpR _ _ _ _ _ _; first | refine goR ?_ | refine clR 57 tt rfl rfl rfl (hr := t1) (k := ?_) | refine clR 57 tt rfl rfl rfl (hr := t2) (k := ?_) | refine clR 71 tt rfl rfl rfl (hr := c1) (k := ?_) | refine clR 71 tt rfl rfl rfl (hr := c2) (k := ?_) | refine clR 47 tt rfl rfl rfl (hr := mk) (k := ?_) | (refine gdRD rfl rfl (fun _ => ?_) (fun _ => ?_) <;> try (exfalso; omega)) | (refine gdRN rfl rfl (fun _ => ?_) (fun _ => ?_) <;> try (exfalso; omega)) | refine gdR rfl rfl (fun _ => ?_) (fun _ => ?_))
        | (show retPost _ _ _ _ _; first | refine finF true rfl rfl sc ?_ | refine finF false rfl rfl sc ?_ | refine finC false rfl rfl sc sc ?_ | refine finN rfl rfl sc ?_ | refine finL true rfl rfl sc rfl (LeR.cons rfl leL LeR.nil) ?_ | refine finE true rfl rfl sc ?_ | refine finE false rfl rfl sc ?_))
      all_goals rfl
  · by_cases h : q < p
    · rw [if_pos h] at mk ⊢
      refine ret_of_awp tab Tryz.func32 rfl rfl (Nat.le_of_ble_eq_true rfl) (fun w0 F0 => ?_)
      repeat' (first
        | (show awpL _ _ _ _ _; first | refine goL ?_ | refine cl 57 tt rfl rfl rfl (hr := t1) (k := ?_) | refine cl 57 tt rfl rfl rfl (hr := t2) (k := ?_) | refine cl 71 tt rfl rfl rfl (hr := c1) (k := ?_) | refine cl 71 tt rfl rfl rfl (hr := c2) (k := ?_) | refine cl 47 tt rfl rfl rfl (hr := mk) (k := ?_) | (refine gdLD rfl rfl (fun _ => ?_) (fun _ => ?_) <;> try (exfalso; omega)) | (refine gdLN rfl rfl (fun _ => ?_) (fun _ => ?_) <;> try (exfalso; omega)) | refine gdL rfl rfl (fun _ => ?_) (fun _ => ?_))
        | (show awp _ _ _ _; first | refine goA ?_ | refine awp_reg 1 3 mixed (by kernel_rfl) (by kernel_rfl) ?_ | (refine awp_condD rfl (fun _ => ?_) (fun _ => ?_) <;> try (exfalso; omega)) | (refine awp_condN rfl (fun _ => ?_) (fun _ => ?_) <;> try (exfalso; omega)) | refine awp_cond rfl (fun _ => ?_) (fun _ => ?_))
        | (show andThen _ _ _ _; first | refine goN ?_)
        | (show inBlock _ _ _ _; first | refine goB ?_)
        | (show awpR _ _ _ _ _ _; first | refine goR ?_ | refine clR 57 tt rfl rfl rfl (hr := t1) (k := ?_) | refine clR 57 tt rfl rfl rfl (hr := t2) (k := ?_) | refine clR 71 tt rfl rfl rfl (hr := c1) (k := ?_) | refine clR 71 tt rfl rfl rfl (hr := c2) (k := ?_) | refine clR 47 tt rfl rfl rfl (hr := mk) (k := ?_) | (refine gdRD rfl rfl (fun _ => ?_) (fun _ => ?_) <;> try (exfalso; omega)) | (refine gdRN rfl rfl (fun _ => ?_) (fun _ => ?_) <;> try (exfalso; omega)) | refine gdR rfl rfl (fun _ => ?_) (fun _ => ?_))
        | (show retPost _ _ _ _ _; first | refine finF true rfl rfl sc ?_ | refine finF false rfl rfl sc ?_ | refine finC false rfl rfl sc sc ?_ | refine finN rfl rfl sc ?_ | refine finL true rfl rfl sc rfl (LeR.cons rfl leL LeR.nil) ?_ | refine finT true rfl rfl sc ?_ | refine finT false rfl rfl sc ?_ | refine finE true rfl rfl sc ?_ | refine finE false rfl rfl sc ?_))
      all_goals exact leT
    · rw [if_neg h] at mk ⊢
      refine ret_of_awp tab Tryz.func32 rfl rfl (Nat.le_of_ble_eq_true rfl) (fun w0 F0 => ?_)
      repeat' (first
        | (show awpL _ _ _ _ _; first | refine goL ?_ | refine cl 57 tt rfl rfl rfl (hr := t1) (k := ?_) | refine cl 57 tt rfl rfl rfl (hr := t2) (k := ?_) | refine cl 71 tt rfl rfl rfl (hr := c1) (k := ?_) | refine cl 71 tt rfl rfl rfl (hr := c2) (k := ?_) | refine cl 47 tt rfl rfl rfl (hr := mk) (k := ?_) | (refine gdLD rfl rfl (fun _ => ?_) (fun _ => ?_) <;> try (exfalso; omega)) | (refine gdLN rfl rfl (fun _ => ?_) (fun _ => ?_) <;> try (exfalso; omega)) | refine gdL rfl rfl (fun _ => ?_) (fun _ => ?_))
        | (show awp _ _ _ _; first | refine goA ?_ | refine awp_reg 1 3 mixed (by kernel_rfl) (by kernel_rfl) ?_ | (refine awp_condD rfl (fun _ => ?_) (fun _ => ?_) <;> try (exfalso; omega)) | (refine awp_condN rfl (fun _ => ?_) (fun _ => ?_) <;> try (exfalso; omega)) | refine awp_cond rfl (fun _ => ?_) (fun _ => ?_))
        | (show andThen _ _ _ _; first | refine goN ?_)
        | (show inBlock _ _ _ _; first | refine goB ?_)
        | (show awpR _ _ _ _ _ _; first | refine goR ?_ | refine clR 57 tt rfl rfl rfl (hr := t1) (k := ?_) | refine clR 57 tt rfl rfl rfl (hr := t2) (k := ?_) | refine clR 71 tt rfl rfl rfl (hr := c1) (k := ?_) | refine clR 71 tt rfl rfl rfl (hr := c2) (k := ?_) | refine clR 47 tt rfl rfl rfl (hr := mk) (k := ?_) | (refine gdRD rfl rfl (fun _ => ?_) (fun _ => ?_) <;> try (exfalso; omega)) | (refine gdRN rfl rfl (fun _ => ?_) (fun _ => ?_) <;> try (exfalso; omega)) | refine gdR rfl rfl (fun _ => ?_) (fun _ => ?_))
        | (show retPost _ _ _ _ _; first | refine finF true rfl rfl sc ?_ | refine finF false rfl rfl sc ?_ | refine finC false rfl rfl sc sc ?_ | refine finN rfl rfl sc ?_ | refine finL true rfl rfl sc rfl (LeR.cons rfl leL LeR.nil) ?_ | refine finE true rfl rfl sc ?_ | refine finE false rfl rfl sc ?_))
      all_goals rfl
theorem interval_Width (a b : R3) (ha : RatOk a 50000) (hb : RatOk b 50000) : Ret Tryz.prog 22 [iD a b] (· = qD ((takeI (rv a) (rv b)).2 - (takeI (rv a) (rv b)).1)) := by
  have t1 := interval_value a b ha hb
  have o1 := takeI_ok (k := 50000) (okQ_rv ha (by decide)) (okQ_rv hb (by decide)) (by decide)
  have q1 := takeI_le (rv a) (rv b)
  generalize takeI (rv a) (rv b) = i at *
  obtain ⟨p, q⟩ := i
  obtain ⟨op, oq⟩ := o1
  simp only at op oq q1
  have m1 := rational_SubQ q p (oq.mono (by decide)) (op.mono (by decide))
  refine ret_of_awp tab Tryz.func22 rfl rfl (Nat.le_of_ble_eq_true rfl) (fun w0 F0 => ?_)
  repeat' (first
    | (show awpL _ _ _ _ _; first | refine goL ?_ | refine cl 57 tt rfl rfl rfl (hr := t1) (k := ?_) | refine cl 75 tt rfl rfl rfl (hr := m1) (k := ?_) | (refine gdLD rfl rfl (fun _ => ?_) (fun _ => ?_) <;> try (exfalso; omega)) | (refine gdLN rfl rfl (fun _ => ?_) (fun _ => ?_) <;> try (exfalso; omega)) | refine gdL rfl rfl (fun _ => ?_) (fun _ => ?_))
    | (show awp _ _ _ _; first | refine goA ?_ | (refine awp_condD rfl (fun _ => ?_) (fun _ => ?_) <;> try (exfalso; omega)) | (refine awp_condN rfl (fun _ => ?_) (fun _ => ?_) <;> try (exfalso; omega)) | refine awp_cond rfl (fun _ => ?_) (fun _ => ?_))
    | (show andThen _ _ _ _; first | refine goN ?_)
    | (show inBlock _ _ _ _; first | refine goB ?_)
    | (show awpR _ _ _ _ _ _; first | refine goR ?_ | refine clR 57 tt rfl rfl rfl (hr := t1) (k := ?_) | refine clR 75 tt rfl rfl rfl (hr := m1) (k := ?_) | (refine gdRD rfl rfl (fun _ => ?_) (fun _ => ?_) <;> try (exfalso; omega)) | (refine gdRN rfl rfl (fun _ => ?_) (fun _ => ?_) <;> try (exfalso; omega)) | refine gdR rfl rfl (fun _ => ?_) (fun _ => ?_))
    | (show retPost _ _ _ _ _; first | refine finF true rfl rfl sc ?_ | refine finF false rfl rfl sc ?_ | refine finC false rfl rfl sc sc ?_ | refine finN rfl rfl sc ?_ | refine finL true rfl rfl sc rfl (LeR.cons rfl leL LeR.nil) ?_ | refine finE true rfl rfl sc ?_ | refine finE false rfl rfl sc ?_))
  rfl
theorem interval_Mid (a b : R3) (ha : RatOk a 50000) (hb : RatOk b 50000) : Ret Tryz.prog 52 [iD a b] (· = qD (((takeI (rv a) (rv b)).1 + (takeI (rv a) (rv b)).2) / 2)) := by
  have t1 := interval_value a b ha hb
  have o1 := takeI_ok (k := 50000) (okQ_rv ha (by decide)) (okQ_rv hb (by decide)) (by decide)
  have q1 := takeI_le (rv a) (rv b)
  generalize takeI (rv a) (rv b) = i at *
  obtain ⟨p, q⟩ := i
  obtain ⟨op, oq⟩ := o1
  simp only at op oq q1
  have m1 := rational_AddQ p q (op.mono (by decide)) (oq.mono (by decide))
  have m2 := rational_FromIntQ 2 (by decide) (by decide)
  have o2 : okQ 1000000 ((2 : Int) : Rat) := okQ_int (by decide)
  have m3 := rational_DivQ (p + q) ((2 : Int) : Rat) ((op.add oq).mono (by decide)) o2
  rw [if_neg (by decide)] at m3
  refine ret_of_awp tab Tryz.func52 rfl rfl (Nat.le_of_ble_eq_true rfl) (fun w0 F0 => ?_)
  repeat' (first
    | (show awpL _ _ _ _ _; first | refine goL ?_ | refine cl 57 tt rfl rfl rfl (hr := t1) (k := ?_) | refine cl 74 tt rfl rfl rfl (hr := m1) (k := ?_) | refine cl 73 tt rfl rfl rfl (hr := m2) (k := ?_) | refine cl 69 tt rfl rfl rfl (hr := m3) (k := ?_) | (refine gdLD rfl rfl (fun _ => ?_) (fun _ => ?_) <;> try (exfalso; omega)) | (refine gdLN rfl rfl (fun _ => ?_) (fun _ => ?_) <;> try (exfalso; omega)) | refine gdL rfl rfl (fun _ => ?_) (fun _ => ?_))
    | (show awp _ _ _ _; first | refine goA ?_ | (refine awp_condD rfl (fun _ => ?_) (fun _ => ?_) <;> try (exfalso; omega)) | (refine awp_condN rfl (fun _ => ?_) (fun _ => ?_) <;> try (exfalso; omega)) | refine awp_cond rfl (fun _ => ?_) (fun _ => ?_))
    | (show andThen _ _ _ _; first | refine goN ?_)
    | (show inBlock _ _ _ _; first | refine goB ?_)
    | (show awpR _ _ _ _ _ _; first | refine goR ?_ | refine clR 57 tt rfl rfl rfl (hr := t1) (k := ?_) | refine clR 74 tt rfl rfl rfl (hr := m1) (k := ?_) | refine clR 73 tt rfl rfl rfl (hr := m2) (k := ?_) | refine clR 69 tt rfl rfl rfl (hr := m3) (k := ?_) | (refine gdRD rfl rfl (fun _ => ?_) (fun _ => ?_) <;> try (exfalso; omega)) | (refine gdRN rfl rfl (fun _ => ?_) (fun _ => ?_) <;> try (exfalso; omega)) | refine gdR rfl rfl (fun _ => ?_) (fun _ => ?_))
    | (show retPost _ _ _ _ _; first | refine finF true rfl rfl sc ?_ | refine finF false rfl rfl sc ?_ | refine finC false rfl rfl sc sc ?_ | refine finN rfl rfl sc ?_ | refine finL true rfl rfl sc rfl (LeR.cons rfl leL LeR.nil) ?_ | refine finE true rfl rfl sc ?_ | refine finE false rfl rfl sc ?_))
  rfl
end Go.Proofs.YtjjefhbceoeibaaGreat

set_option linter.unusedVariables false
set_option linter.unusedSimpArgs false
namespace Go.Proofs.YtjjefhbceoeibaaGreat
open Go.Vw
attribute [local irreducible] awp awpL awpR

theorem interval_power (n : Nat) (h : n ≤ 128) : Ret Tryz.prog 67 [.int .i64 n] (· = u32s (limbs (2 ^ n))) := by
  rw [← limbs_two]
  have e1 : ((n : Int)).tdiv 32 = ((n / 32 : Nat) : Int) := by rw [Int.tdiv_eq_ediv_of_nonneg (by omega)]; omega
  have e2 : ((n : Int)).tmod 32 = ((n % 32 : Nat) : Int) := by rw [Int.tmod_eq_emod_of_nonneg (by omega)]; omega
  refine ret_of_awp tab Tryz.func67 rfl rfl (Nat.le_of_ble_eq_true rfl) (fun w0 F0 => ?_)
  repeat' (first
    | (show awpL _ _ _ _ _; first | refine goL ?_ | (refine gdLD rfl rfl (fun _ => ?_) (fun _ => ?_) <;> try (exfalso; omega)) | (refine gdLN rfl rfl (fun _ => ?_) (fun _ => ?_) <;> try (exfalso; omega)) | refine gdL rfl rfl (fun _ => ?_) (fun _ => ?_))
    | (show awp _ _ _ _; first | refine goA ?_ | (refine awp_condD rfl (fun _ => ?_) (fun _ => ?_) <;> try (exfalso; omega)) | (refine awp_condN rfl (fun _ => ?_) (fun _ => ?_) <;> try (exfalso; omega)) | refine awp_cond rfl (fun _ => ?_) (fun _ => ?_))
    | (show andThen _ _ _ _; first | refine goN ?_)
    | (show inBlock _ _ _ _; first | refine goB ?_)
    | (show awpR _ _ _ _ _ _; first | refine goR ?_ | (refine gdRD rfl rfl (fun _ => ?_) (fun _ => ?_) <;> try (exfalso; omega)) | (refine gdRN rfl rfl (fun _ => ?_) (fun _ => ?_) <;> try (exfalso; omega)) | refine gdR rfl rfl (fun _ => ?_) (fun _ => ?_))
    | (show retPost _ _ _ _ _; first | refine finF true rfl rfl sc ?_ | refine finF false rfl rfl sc ?_ | refine finC false rfl rfl sc sc ?_ | refine finN rfl rfl sc ?_ | refine finL true rfl rfl sc rfl (LeR.cons rfl leL LeR.nil) ?_ | refine finE true rfl rfl sc ?_ | refine finE false rfl rfl sc ?_))
  have hp : 2 ^ (n % 32) < 4294967296 := by
    show 2 ^ (n % 32) < 2 ^ 32
    exact Nat.pow_lt_pow_right (by decide) (show n % 32 < 32 by omega)
  rw [show ((n : Int) % 32).toNat = n % 32 by omega]
  congr 1
  generalize n % 32 = s at *
  rw [Int.one_mul, show (2 : Int) ^ s = ((2 ^ s : Nat) : Int) from (Int.natCast_pow 2 s).symm]
  generalize 2 ^ s = y at *
  omega
theorem interval_RootN (v : R3) (n : Nat) (hn : n ≤ 128) (hv : RatOk v 20000) (h0 : 0 ≤ (rv v).num) : Ret Tryz.prog 21 [rD v, .int .i64 n] (· = .tup [iQ (rootI (rv v) n), .int .i64 0]) := by
  have ov := okQ_rv (k := 20000) hv (by decide)
  have ot := okQ_two hn
  have ott := ot.mul ot
  have om := ov.mul ott
  have hs := rational_Sign v (hv.up (by decide))
  have hs0 : 0 ≤ (rv v).num.sign := Int.sign_nonneg_iff.2 h0
  have ht := interval_power n hn
  have m1 : Ret Tryz.prog 59 [rD (rq (twoQ n)), rD (rq (twoQ n))] (· = qD (twoQ n * twoQ n)) := rational_MulQ (twoQ n) (twoQ n) (ot.mono (by decide)) (ot.mono (by decide))
  rw [rq_two] at m1
  have m2 := rational_Mul v (rq (twoQ n * twoQ n)) (hv.up (by decide)) (ok_rq (ott.mono (by decide)))
  rw [rv_rq] at m2
  have f1 := rational_FloorQ (rv v * (twoQ n * twoQ n)) (om.mono (by decide))
  have lf := floor_len om
  have r1 := natural_RootN (rv v * (twoQ n * twoQ n)).floor.natAbs (by omega)
  rw [show rt (rv v * (twoQ n * twoQ n)).floor.natAbs = rootN (rv v) n from rfl] at r1
  have lr := rootN_len ov hn
  have or := okQ_natI (k := 20020) lr (by decide)
  have q1 : Ret Tryz.prog 69 [rD (rq (((rootN (rv v) n : Nat) : Int) : Rat)), rD (rq (twoQ n))] (· = if twoQ n = 0 then .tup [rD r0, .int .i64 5] else .tup [qD ((((rootN (rv v) n : Nat) : Int) : Rat) / twoQ n), .int .i64 0]) := rational_DivQ (((rootN (rv v) n : Nat) : Int) : Rat) (twoQ n) (or.mono (by decide)) (ot.mono (by decide))
  rw [if_neg (twoQ_ne n)] at q1
  have olo := or.div ot (twoQ_ne n)
  rw [rq_natI, rq_two] at q1
  have hI : rootI (rv v) n = if rootLo (rv v) n * rootLo (rv v) n = rv v then (rootLo (rv v) n, rootLo (rv v) n) else (rootLo (rv v) n, rootLo (rv v) n + 1 / twoQ n) := rfl
  rw [hI]
  rw [show (((rootN (rv v) n : Nat) : Int) : Rat) / twoQ n = rootLo (rv v) n from rfl] at q1 olo
  have m3 := rational_MulQ (rootLo (rv v) n) (rootLo (rv v) n) (olo.mono (by decide)) (olo.mono (by decide))
  have c1 := rational_Compare (rq (rootLo (rv v) n * rootLo (rv v) n)) v (ok_rq ((olo.mul olo).mono (by decide))) (hv.up (by decide))
  rw [rv_rq] at c1
  have z1 := cmpQ_zero (rootLo (rv v) n * rootLo (rv v) n) (rv v)
  have nu := interval_numberQ (rootLo (rv v) n) (olo.mono (by decide))
  have fi := rational_FromIntQ 1 (by decide) (by decide)
  rw [show ((1 : Int) : Rat) = 1 from rfl] at fi
  have o1 : okQ 2 1 := ⟨by show (limbs 1).length < 2; rw [limbs_one]; decide, by show (limbs 1).length < 2; rw [limbs_one]; decide⟩
  have q2 : Ret Tryz.prog 69 [qD 1, rD (rq (twoQ n))] (· = if twoQ n = 0 then .tup [rD r0, .int .i64 5] else .tup [qD (1 / twoQ n), .int .i64 0]) := rational_DivQ 1 (twoQ n) (o1.mono (by decide)) (ot.mono (by decide))
  rw [if_neg (twoQ_ne n), rq_two] at q2
  have a1 := rational_AddQ (rootLo (rv v) n) (1 / twoQ n) (olo.mono (by decide)) ((o1.div ot (twoQ_ne n)).mono (by decide))
  clear hI ov or olo om ott lf lr ot o1
  generalize rootLo (rv v) n + 1 / twoQ n = hi at *
  generalize 1 / twoQ n = st at *
  generalize rootLo (rv v) n = lo at *
  generalize rootN (rv v) n = r at *
  generalize (rv v * (twoQ n * twoQ n)).floor = f at *
  generalize rv v * (twoQ n * twoQ n) = vtt at *
  generalize twoQ n * twoQ n = t4 at *
  generalize 2 ^ n = pw at *
  generalize (rv v).num.sign = sg at *
  obtain ⟨c, hc⟩ : ∃ c, cmpQ (lo * lo) (rv v) = c := ⟨_, rfl⟩
  rw [hc] at c1 z1
  by_cases h : lo * lo = rv v
  · have hc0 := z1.2 h
    rw [if_pos h]
    clear z1
    generalize lo * lo = lo2 at *
    refine ret_of_awp tab Tryz.func21 rfl rfl (Nat.le_of_ble_eq_true rfl) (fun w0 F0 => ?_)
    repeat' (first
      | (show awpL _ _ _ _ _; first | refine goL ?_ | refine cl 66 tt rfl rfl rfl (hr := hs) (k := ?_) | refine cl 67 tt rfl rfl rfl (hr := ht) (k := ?_) | refine cl 59 tt rfl rfl rfl (hr := m1) (k := ?_) | refine cl 59 tt rfl rfl rfl (hr := m2) (k := ?_) | refine cl 68 tt rfl rfl rfl (hr := f1) (k := ?_) | refine cl 70 tt rfl rfl rfl (hr := r1) (k := ?_) | refine cl 69 tt rfl rfl rfl (hr := q1) (k := ?_) | refine cl 59 tt rfl rfl rfl (hr := m3) (k := ?_) | refine cl 71 tt rfl rfl rfl (hr := c1) (k := ?_) | refine cl 72 tt rfl rfl rfl (hr := nu) (k := ?_) | (refine gdLD rfl rfl (fun _ => ?_) (fun _ => ?_) <;> try (exfalso; omega)) | (refine gdLN rfl rfl (fun _ => ?_) (fun _ => ?_) <;> try (exfalso; omega)) | refine gdL rfl rfl (fun _ => ?_) (fun _ => ?_))
      | (show awp _ _ _ _; first | refine goA ?_ | refine awp_regK 4 7 [7] mixed (by kernel_rfl) (by kernel_rfl) (by kernel_rfl) ?_ | refine awp_regK 5 12 [8] mixed (by kernel_rfl) (by kernel_rfl) (by kernel_rfl) ?_ | refine awp_reg 6 4 mixed (by kernel_rfl) (by kernel_rfl) ?_ | refine awp_reg 7 3 mixed (by kernel_rfl) (by kernel_rfl) ?_ | refine awp_regK 8 8 [10] mixed (by kernel_rfl) (by kernel_rfl) (by kernel_rfl) ?_ | refine awp_reg 9 4 mixed (by kernel_rfl) (by kernel_rfl) ?_ | (refine awp_condD rfl (fun _ => ?_) (fun _ => ?_) <;> try (exfalso; omega)) | (refine awp_condN rfl (fun _ => ?_) (fun _ => ?_) <;> try (exfalso; omega)) | refine awp_cond rfl (fun _ => ?_) (fun _ => ?_))
      | (show andThen _ _ _ _; first | refine goN ?_)
      | (show inBlock _ _ _ _; first | refine goB ?_)
      | (show awpR _ _ _ _ _ _; first | refine goR ?_ | refine clR 66 tt rfl rfl rfl (hr := hs) (k := ?_) | refine clR 67 tt rfl rfl rfl (hr := ht) (k := ?_) | refine clR 59 tt rfl rfl rfl (hr := m1) (k := ?_) | refine clR 59 tt rfl rfl rfl (hr := m2) (k := ?_) | refine clR 68 tt rfl rfl rfl (hr := f1) (k := ?_) | refine clR 70 tt rfl rfl rfl (hr := r1) (k := ?_) | refine clR 69 tt rfl rfl rfl (hr := q1) (k := ?_) | refine clR 59 tt rfl rfl rfl (hr := m3) (k := ?_) | refine clR 71 tt rfl rfl rfl (hr := c1) (k := ?_) | refine clR 72 tt rfl rfl rfl (hr := nu) (k := ?_) | (refine gdRD rfl rfl (fun _ => ?_) (fun _ => ?_) <;> try (exfalso; omega)) | (refine gdRN rfl rfl (fun _ => ?_) (fun _ => ?_) <;> try (exfalso; omega)) | refine gdR rfl rfl (fun _ => ?_) (fun _ => ?_))
      | (show retPost _ _ _ _ _; first | refine finF true rfl rfl sc ?_ | refine finF false rfl rfl sc ?_ | refine finC false rfl rfl sc sc ?_ | refine finN rfl rfl sc ?_ | refine finL true rfl rfl sc rfl (LeR.cons rfl leL LeR.nil) ?_ | refine finE true rfl rfl sc ?_ | refine finE false rfl rfl sc ?_))
    rfl
  · have hc0 := mt z1.1 h
    rw [if_neg h]
    clear z1
    generalize lo * lo = lo2 at *
    refine ret_of_awp tab Tryz.func21 rfl rfl (Nat.le_of_ble_eq_true rfl) (fun w0 F0 => ?_)
    repeat' (first
      | (show awpL _ _ _ _ _; first | refine goL ?_ | refine cl 66 tt rfl rfl rfl (hr := hs) (k := ?_) | refine cl 67 tt rfl rfl rfl (hr := ht) (k := ?_) | refine cl 59 tt rfl rfl rfl (hr := m1) (k := ?_) | refine cl 59 tt rfl rfl rfl (hr := m2) (k := ?_) | refine cl 68 tt rfl rfl rfl (hr := f1) (k := ?_) | refine cl 70 tt rfl rfl rfl (hr := r1) (k := ?_) | refine cl 69 tt rfl rfl rfl (hr := q1) (k := ?_) | refine cl 59 tt rfl rfl rfl (hr := m3) (k := ?_) | refine cl 71 tt rfl rfl rfl (hr := c1) (k := ?_) | refine cl 73 tt rfl rfl rfl (hr := fi) (k := ?_) | refine cl 69 tt rfl rfl rfl (hr := q2) (k := ?_) | refine cl 74 tt rfl rfl rfl (hr := a1) (k := ?_) | (refine gdLD rfl rfl (fun _ => ?_) (fun _ => ?_) <;> try (exfalso; omega)) | (refine gdLN rfl rfl (fun _ => ?_) (fun _ => ?_) <;> try (exfalso; omega)) | refine gdL rfl rfl (fun _ => ?_) (fun _ => ?_))
      | (show awp _ _ _ _; first | refine goA ?_ | refine awp_regK 4 7 [7] mixed (by kernel_rfl) (by kernel_rfl) (by kernel_rfl) ?_ | refine awp_regK 5 12 [8] mixed (by kernel_rfl) (by kernel_rfl) (by kernel_rfl) ?_ | refine awp_reg 6 4 mixed (by kernel_rfl) (by kernel_rfl) ?_ | refine awp_reg 7 3 mixed (by kernel_rfl) (by kernel_rfl) ?_ | refine awp_regK 8 8 [10] mixed (by kernel_rfl) (by kernel_rfl) (by kernel_rfl) ?_ | refine awp_reg 9 4 mixed (by kernel_rfl) (by kernel_rfl) ?_ | (refine awp_condD rfl (fun _ => ?_) (fun _ => ?_) <;> try (exfalso; omega)) | (refine awp_condN rfl (fun _ => ?_) (fun _ => ?_) <;> try (exfalso; omega)) | refine awp_cond rfl (fun _ => ?_) (fun _ => ?_))
      | (show andThen _ _ _ _; first | refine goN ?_)
      | (show inBlock _ _ _ _; first | refine goB ?_)
      | (show awpR _ _ _ _ _ _; first | refine goR ?_ | refine clR 66 tt rfl rfl rfl (hr := hs) (k := ?_) | refine clR 67 tt rfl rfl rfl (hr := ht) (k := ?_) | refine clR 59 tt rfl rfl rfl (hr := m1) (k := ?_) | refine clR 59 tt rfl rfl rfl (hr := m2) (k := ?_) | refine clR 68 tt rfl rfl rfl (hr := f1) (k := ?_) | refine clR 70 tt rfl rfl rfl (hr := r1) (k := ?_) | refine clR 69 tt rfl rfl rfl (hr := q1) (k := ?_) | refine clR 59 tt rfl rfl rfl (hr := m3) (k := ?_) | refine clR 71 tt rfl rfl rfl (hr := c1) (k := ?_) | refine clR 73 tt rfl rfl rfl (hr := fi) (k := ?_) | refine clR 69 tt rfl rfl rfl (hr := q2) (k := ?_) | refine clR 74 tt rfl rfl rfl (hr := a1) (k := ?_) | (refine gdRD rfl rfl (fun _ => ?_) (fun _ => ?_) <;> try (exfalso; omega)) | (refine gdRN rfl rfl (fun _ => ?_) (fun _ => ?_) <;> try (exfalso; omega)) | refine gdR rfl rfl (fun _ => ?_) (fun _ => ?_))
      | (show retPost _ _ _ _ _; first | refine finF true rfl rfl sc ?_ | refine finF false rfl rfl sc ?_ | refine finC false rfl rfl sc sc ?_ | refine finN rfl rfl sc ?_ | refine finL true rfl rfl sc rfl (LeR.cons rfl leL LeR.nil) ?_ | refine finE true rfl rfl sc ?_ | refine finE false rfl rfl sc ?_))
    rfl
theorem interval_RootE (v : R3) (b : Int) (hb : -9223372036854775808 ≤ b) (hb2 : b < 9223372036854775808) (hv : RatOk v 20000) (h0 : (rv v).num < 0 ∨ b < 0 ∨ 128 < b) : Ret Tryz.prog 21 [rD v, .int .i64 b] (· = .tup [iD r0 r0, .int .i64 1]) := by
  have hs := rational_Sign v (hv.up (by decide))
  have hs0 : (rv v).num < 0 ↔ (rv v).num.sign < 0 := by rw [← Int.not_le, ← Int.not_le, Int.sign_nonneg_iff]
  generalize (rv v).num.sign = sg at *
  generalize (rv v).num = nu at *
  rw [hs0] at h0
  clear hs0
  refine ret_of_awp tab Tryz.func21 rfl rfl (Nat.le_of_ble_eq_true rfl) (fun w0 F0 => ?_)
  repeat' (first
    | (show awpL _ _ _ _ _; first | refine goL ?_ | refine cl 66 tt rfl rfl rfl (hr := hs) (k := ?_) | (refine gdLD rfl rfl (fun _ => ?_) (fun _ => ?_) <;> try (exfalso; omega)) | (refine gdLN rfl rfl (fun _ => ?_) (fun _ => ?_) <;> try (exfalso; omega)) | refine gdL rfl rfl (fun _ => ?_) (fun _ => ?_))
    | (show awp _ _ _ _; first | refine goA ?_ | refine awp_regK 4 7 [7] mixed (by kernel_rfl) (by kernel_rfl) (by kernel_rfl) ?_ | refine awp_regK 5 12 [8] mixed (by kernel_rfl) (by kernel_rfl) (by kernel_rfl) ?_ | refine awp_reg 6 4 mixed (by kernel_rfl) (by kernel_rfl) ?_ | refine awp_reg 7 3 mixed (by kernel_rfl) (by kernel_rfl) ?_ | refine awp_regK 8 8 [10] mixed (by kernel_rfl) (by kernel_rfl) (by kernel_rfl) ?_ | refine awp_reg 9 4 mixed (by kernel_rfl) (by kernel_rfl) ?_ | (refine awp_condD rfl (fun _ => ?_) (fun _ => ?_) <;> try (exfalso; omega)) | (refine awp_condN rfl (fun _ => ?_) (fun _ => ?_) <;> try (exfalso; omega)) | refine awp_cond rfl (fun _ => ?_) (fun _ => ?_))
    | (show andThen _ _ _ _; first | refine goN ?_)
    | (show inBlock _ _ _ _; first | refine goB ?_)
    | (show awpR _ _ _ _ _ _; first | refine goR ?_ | refine clR 66 tt rfl rfl rfl (hr := hs) (k := ?_) | (refine gdRD rfl rfl (fun _ => ?_) (fun _ => ?_) <;> try (exfalso; omega)) | (refine gdRN rfl rfl (fun _ => ?_) (fun _ => ?_) <;> try (exfalso; omega)) | refine gdR rfl rfl (fun _ => ?_) (fun _ => ?_))
    | (show retPost _ _ _ _ _; first | refine finF true rfl rfl sc ?_ | refine finF false rfl rfl sc ?_ | refine finC false rfl rfl sc sc ?_ | refine finN rfl rfl sc ?_ | refine finL true rfl rfl sc rfl (LeR.cons rfl leL LeR.nil) ?_ | refine finT true rfl rfl sc ?_ | refine finT false rfl rfl sc ?_ | refine finE true rfl rfl sc ?_ | refine finE false rfl rfl sc ?_))
  all_goals exact leT
end Go.Proofs.YtjjefhbceoeibaaGreat

/-
  What an argument of a law holds, as a value of a plain type: whatever can be read of it, it stands for. Conditions: the type's shape is as its code says (a closed fact).
-/
set_option linter.unusedSimpArgs false
set_option linter.unusedVariables false
set_option linter.unusedSectionVars false
namespace Go.Vw
open Go.RowKit Go.ChangeShapes Go.WideShapes

mutual
inductive Ty where
  | int (k : IntKind)
  | bool
  | str
  | struct (fs : Tys)
  | slice (e : Ty)
inductive Tys where
  | nil
  | cons (t : Ty) (ts : Tys)
end
mutual
def Ty.Val : Ty → Type
  | .int _ => Int
  | .bool => Bool
  | .str => List UInt8
  | .struct fs => fs.Val
  | .slice e => List e.Val
def Tys.Val : Tys → Type
  | .nil => Unit
  | .cons t ts => t.Val × ts.Val
end
mutual
def Ty.zero : (t : Ty) → t.Val
  | .int _ => (0 : Int)
  | .bool => false
  | .str => ([] : List UInt8)
  | .struct fs => fs.zero
  | .slice e => ([] : List e.Val)
def Tys.zero : (ts : Tys) → ts.Val
  | .nil => ()
  | .cons t ts => (t.zero, ts.zero)
end
mutual
def Ty.width : Ty → Nat
  | .int _ => 1
  | .bool => 1
  | .str => 1
  | .struct fs => fs.width
  | .slice _ => 1
def Tys.width : Tys → Nat
  | .nil => 0
  | .cons t ts => t.width + ts.width
end
mutual
def Ty.cells : (t : Ty) → t.Val → List D
  | .int k, (n : Int) => [.int k n]
  | .bool, (b : Bool) => [.bool b]
  | .str, (s : List UInt8) => [.str s]
  | .struct fs, v => fs.cells v
  | .slice e, (l : List e.Val) => [.sl e.width e.cells e.zero l]
def Tys.cells : (ts : Tys) → ts.Val → List D
  | .nil, _ => []
  | .cons t ts, v => t.cells v.1 ++ ts.cells v.2
end
mutual
def Ty.wf : (t : Ty) → t.Val → Prop
  | .int k, (n : Int) => (Lit.int k n).wf = true
  | .bool, _ => True
  | .str, (s : List UInt8) => s.length ≤ maxLen
  | .struct fs, v => fs.wf v
  | .slice e, (l : List e.Val) => l.length ≤ maxLen ∧ ∀ a ∈ l, e.wf a
def Tys.wf : (ts : Tys) → ts.Val → Prop
  | .nil, _ => True
  | .cons t ts, v => t.wf v.1 ∧ ts.wf v.2
end
mutual
def Ty.ok (P : Program) : Ty → TypeId → Bool
  | .int k, t => match P.underlying t with | some (.int k') => decide (k' = k) | _ => false
  | .bool, t => match P.underlying t with | some .bool => true | _ => false
  | .str, t => match P.underlying t with | some .string => true | _ => false
  | .struct fs, t => match P.underlying t with | some (.struct fields) => Nat.beq (P.cellsOf t) fs.width && Tys.ok P fs fields.toList 0 | _ => false
  | .slice e, t => match P.underlying t with | some (.slice te) => Nat.beq (P.cellsOf te) e.width && Nat.blt 0 e.width && Ty.ok P e te | _ => false
def Tys.ok (P : Program) : Tys → List Field → Nat → Bool
  | .nil, fs, _ => match fs with | [] => true | _ :: _ => false
  | .cons t ts, fs, off => match fs with
    | f :: fs => Nat.beq f.offset off && Nat.beq (P.cellsOf f.type) t.width && Ty.ok P t f.type && Tys.ok P ts fs (off + t.width)
    | [] => false
end
mutual
theorem Ty.cells_len : ∀ (t : Ty) (v : t.Val), (t.cells v).length = t.width
  | .int k, v => rfl
  | .bool, v => rfl
  | .str, v => rfl
  | .struct fs, v => by simp only [Ty.cells, Ty.width]; exact Tys.cells_len fs v
  | .slice e, v => rfl
theorem Tys.cells_len : ∀ (ts : Tys) (v : ts.Val), (ts.cells v).length = ts.width
  | .nil, v => rfl
  | .cons t ts, v => by simp only [Tys.cells, Tys.width, List.length_append]; rw [Ty.cells_len t v.1, Tys.cells_len ts v.2]
end

/-- All that the memory holds. -/
def allF (w : World) : Nat → Prop := fun b => b < w.heap.size
section
variable {H : Type} {enc : TypeId × Value → H} {P : Program} {w : World} {held : Bool}

theorem dra_one {F : Nat → Prop} {g : Nat → Option Value} {off : Nat} {x : D} {v : Value} (h0 : g off = some v) (h1 : v.oneCell' = true) (h : DR F w x v) : DRA F w g off [x] := by
  simp only [DRA]; exact ⟨⟨v, h0, h1, h⟩, trivial⟩
theorem dra_app {F : Nat → Prop} {g : Nat → Option Value} {xs ys : List D} {off : Nat} (h : DRA F w g off xs) (k : DRA F w g (off + xs.length) ys) : DRA F w g off (xs ++ ys) := by
  rw [DRA_iff] at h k ⊢
  intro i c hi
  by_cases hl : i < xs.length
  · rw [List.getElem?_append_left hl] at hi; exact h i c hi
  · rw [List.getElem?_append_right (by omega)] at hi
    obtain ⟨v, h1, h2⟩ := k _ c hi
    exact ⟨v, by rw [← h1]; congr 1; omega, h2⟩
/-- Where cells are read, there lies a row. -/
theorem row_of_cells {a : Addr} {n : Nat} {cs : List Value} (h : w.cells? 0 a n = some cs) (hn : 0 < n) : ∃ b o arr ty fz, a = ⟨b, o, none⟩ ∧ w.heap[b]? = some (.cells arr ty fz) := by
  obtain ⟨_, hl, hc⟩ := World.cells?_some h
  have h0 := hc 0 hn
  rw [List.getElem?_eq_getElem (by omega)] at h0
  obtain ⟨b, o, sp⟩ := a
  unfold World.cell? at h0
  split at h0
  · rename_i c ty fz hh
    split at h0
    · cases h0
    · rename_i hs
      cases sp with
      | none => exact ⟨b, o, c, ty, fz, rfl, hh⟩
      | some s => exact absurd rfl hs
  · cases h0

mutual
theorem Ty.reads : ∀ (ty : Ty) (fuel : Nat) (t : TypeId) (cs : List Value) (x : DataW H × List MemPlace), ty.ok P t = true → DataW.trod enc P w 0 (fun _ => true) held fuel t cs = some x → ∃ v : ty.Val, ty.wf v ∧ cs.length = ty.width ∧ DRA (allF w) w (fun i => cs[i]?) 0 (ty.cells v)
  | .int k, fuel, t, cs, x, hok, h => by
    simp only [Ty.ok] at hok
    split at hok
    · rename_i k' hu
      have hk := of_decide_eq_true hok
      subst hk
      obtain ⟨n, rfl, _, hw⟩ := DataW.trod_int hu h
      exact ⟨(n : Int), hw, rfl, dra_one rfl rfl (by simp only [DR])⟩
    · cases hok
  | .bool, fuel, t, cs, x, hok, h => by
    simp only [Ty.ok] at hok
    split at hok
    · rename_i hu
      obtain ⟨b, rfl, _⟩ := DataW.trod_bool hu h
      exact ⟨(b : Bool), trivial, rfl, dra_one rfl rfl (by simp only [DR])⟩
    · cases hok
  | .str, fuel, t, cs, x, hok, h => by
    simp only [Ty.ok] at hok
    split at hok
    · rename_i hu
      obtain ⟨s, rfl, _, hs⟩ := DataW.trod_string hu h
      refine ⟨(s.data.toList : List UInt8), ?_, rfl, dra_one rfl rfl (by simp only [DR])⟩
      simp only [Ty.wf]
      rw [Array.length_toList]; exact hs
    · cases hok
  | .struct fs, fuel, t, cs, x, hok, h => by
    simp only [Ty.ok] at hok
    split at hok
    · rename_i fields hu
      simp only [Bool.and_eq_true] at hok
      obtain ⟨hw, hf⟩ := hok
      have hw := Nat.eq_of_beq_eq_true hw
      obtain ⟨xs, n, rfl, _, hl, hxl, hx⟩ := DataW.trod_struct hu h
      have hall : ∀ (i : Nat) (f : Field), fields.toList[i]? = some f → ∃ y, DataW.trod enc P w 0 (fun _ => true) held n f.type ((cs.drop f.offset).take (P.cellsOf f.type)) = some y := fun i f hi => by
        rw [Array.getElem?_toList] at hi
        have hlt := (Array.getElem?_eq_some_iff.1 hi).1
        have := hx i f hi
        rw [List.getElem?_eq_getElem (by omega)] at this
        exact ⟨_, this⟩
      obtain ⟨v, h1, h2⟩ := Tys.reads fs n fields.toList 0 cs hf hall
      exact ⟨v, h1, by rw [hl, hw]; rfl, h2⟩
    · cases hok
  | .slice e, fuel, t, cs, x, hok, h => by
    simp only [Ty.ok] at hok
    split at hok
    · rename_i te hu
      simp only [Bool.and_eq_true, Nat.blt_eq] at hok
      obtain ⟨⟨hw, hw0⟩, he⟩ := hok
      have hw := Nat.eq_of_beq_eq_true hw
      rcases Go.Deep.open_slice hu h with ⟨rfl, _⟩ | ⟨a, len, cap, m, n, Dx, Pl, rfl, hb, hlc, hcm, hm, _, hi⟩
      · exact ⟨([] : List e.Val), ⟨by simp, fun a h => by simp at h⟩, rfl, dra_one rfl rfl (by simp only [DR]; exact .inl ⟨⟨_, rfl⟩, trivial⟩)⟩
      · have hlm : len ≤ m := by rw [hm]; split <;> omega
        have each : ∀ i, i < len → ∃ v : e.Val, e.wf v ∧ ∃ cs', w.cells? 0 (a.add (i * P.cellsOf te)) (P.cellsOf te) = some cs' ∧ DRA (allF w) w (fun j => cs'[j]?) 0 (e.cells v) := fun i hlt => by
          obtain ⟨cs', h1, h2⟩ := hi i (by omega)
          obtain ⟨v, q1, q2, q3⟩ := Ty.reads e n te cs' _ he h2
          exact ⟨v, q1, cs', h1, q3⟩
        have : ∃ V : Nat → e.Val, ∀ i, i < len → (e.wf (V i) ∧ ∃ cs', w.cells? 0 (a.add (i * P.cellsOf te)) (P.cellsOf te) = some cs' ∧ DRA (allF w) w (fun j => cs'[j]?) 0 (e.cells (V i))) :=
          ⟨fun i => if h : i < len then (each i h).choose else e.zero, fun i h => by
            simp only [h, dif_pos]
            exact (each i h).choose_spec⟩
        obtain ⟨V, hV⟩ := this
        refine ⟨((List.range len).map V : List e.Val), ⟨by simp; omega, fun v hv => ?_⟩, rfl, dra_one rfl rfl ?_⟩
        · simp only [List.mem_map, List.mem_range] at hv
          obtain ⟨i, hlt, rfl⟩ := hv
          exact (hV i hlt).1
        simp only [DR]
        simp only [if_true] at hm
        by_cases hc0 : cap = 0
        · have hl0 : len = 0 := by omega
          subst hl0 hc0
          exact .inl ⟨⟨_, rfl⟩, by simp⟩
        · obtain ⟨cs0, h0, _⟩ := hi 0 (by omega)
          rw [Nat.zero_mul, show a.add 0 = a by simp [Addr.add]] at h0
          obtain ⟨b, o, arr, ty, fz, ha, hh⟩ := row_of_cells h0 (by omega)
          have ha' : a = ⟨b, a.off, none⟩ := by subst ha; rfl
          refine .inr ⟨b, a.off, cap, arr, ty, fz, by rw [ha']; simp, by simpa using hlc, lt_of_heap hh, hh, fun i v hv => ?_⟩
          have hlt : i < len := by have := (List.getElem?_eq_some_iff.1 hv).1; simpa using this
          simp [hlt] at hv
          subst hv
          obtain ⟨_, cs', h1, h2⟩ := hV i hlt
          refine ⟨Ty.cells_len _ _, ?_⟩
          obtain ⟨_, hcl, hcc⟩ := World.cells?_some h1
          rw [DRA_iff] at h2 ⊢
          intro j c hj
          obtain ⟨u, p1, p2⟩ := h2 j c hj
          have hjl := (List.getElem?_eq_some_iff.1 hj).1
          rw [Ty.cells_len] at hjl
          refine ⟨u, ?_, p2⟩
          have h3 := hcc j (by omega)
          rw [Nat.zero_add] at p1
          rw [p1, ha', add_plain, add_plain] at h3
          simp only [World.cell?, hh] at h3
          rw [← hw]
          simpa using h3
    · cases hok
theorem Tys.reads : ∀ (ts : Tys) (n : Nat) (fields : List Field) (off : Nat) (cs : List Value), ts.ok P fields off = true → (∀ (i : Nat) (f : Field), fields[i]? = some f → ∃ y, DataW.trod enc P w 0 (fun _ => true) held n f.type ((cs.drop f.offset).take (P.cellsOf f.type)) = some y) → ∃ v : ts.Val, ts.wf v ∧ DRA (allF w) w (fun i => cs[i]?) off (ts.cells v)
  | .nil, n, fields, off, cs, hok, h => ⟨(), trivial, by simp only [Tys.cells, DRA]⟩
  | .cons t ts, n, fields, off, cs, hok, h => by
    simp only [Tys.ok] at hok
    split at hok
    · rename_i f fs
      simp only [Bool.and_eq_true] at hok
      obtain ⟨⟨⟨h1, h2⟩, h3⟩, h4⟩ := hok
      have h1 := Nat.eq_of_beq_eq_true h1
      have h2 := Nat.eq_of_beq_eq_true h2
      obtain ⟨y, hy⟩ := h 0 f rfl
      obtain ⟨v, q1, q2, q3⟩ := Ty.reads t n f.type _ y h3 hy
      obtain ⟨v2, r1, r2⟩ := Tys.reads ts n fs (off + t.width) cs h4 (fun i g hg => h (i + 1) g (by simpa using hg))
      refine ⟨(v, v2), ⟨q1, r1⟩, ?_⟩
      simp only [Tys.cells]
      refine dra_app ?_ (by rw [Ty.cells_len]; exact r2)
      rw [DRA_iff] at q3 ⊢
      intro i c hi
      obtain ⟨u, p1, p2⟩ := q3 i c hi
      have hlt := (List.getElem?_eq_some_iff.1 hi).1
      rw [Ty.cells_len] at hlt
      refine ⟨u, ?_, p2⟩
      rw [Nat.zero_add, List.getElem?_take, if_pos (by omega), List.getElem?_drop, h1] at p1
      exact p1
    · cases hok
end

/-- A type's value as one argument. -/
def Ty.top : (t : Ty) → t.Val → D
  | .int k, (n : Int) => .int k n
  | .bool, (b : Bool) => .bool b
  | .str, (s : List UInt8) => .str s
  | .struct fs, v => .agg (fs.cells v)
  | .slice e, (l : List e.Val) => .sl e.width e.cells e.zero l
theorem Ty.topReads {r : Reach} {b0 : Nat} : ∀ (ty : Ty) (t : TypeId) (v : Value) (d : DataW H) (ps : List MemPlace), ty.ok P t = true → Value.okWide P w r b0 t v → DataW.Trod enc P w 0 (fun _ => true) held t v d ps → ∃ x : ty.Val, ty.wf x ∧ DR (allF w) w (ty.top x) v := fun ty t v d ps hok hv h => by
  obtain ⟨fuel, h⟩ := h
  obtain ⟨x, h1, h2, h3⟩ := Ty.reads ty fuel t _ _ hok h
  refine ⟨x, h1, ?_⟩
  have one : ∀ (y : D), v.cells.toList = [v] → DRA (allF w) w (fun i => v.cells.toList[i]?) 0 [y] → DR (allF w) w y v := fun y e hd => by
    rw [e] at hd
    simp only [DRA] at hd
    obtain ⟨⟨u, hu, _, hd⟩, _⟩ := hd
    simp at hu; subst hu; exact hd
  cases ty with
  | int k =>
    simp only [Ty.ok] at hok
    split at hok
    · rename_i k' hu
      refine one _ ?_ h3
      cases v <;> first | rfl | (simp [Value.okWide, hu, Cell.okWide, Cell.ok] at hv)
    · cases hok
  | bool =>
    simp only [Ty.ok] at hok
    split at hok
    · rename_i hu
      refine one _ ?_ h3
      cases v <;> first | rfl | (simp [Value.okWide, hu, Cell.okWide, Cell.ok] at hv)
    · cases hok
  | str =>
    simp only [Ty.ok] at hok
    split at hok
    · rename_i hu
      refine one _ ?_ h3
      cases v <;> first | rfl | (simp [Value.okWide, hu, Cell.okWide, Cell.ok] at hv)
    · cases hok
  | struct fs =>
    simp only [Ty.ok] at hok
    split at hok
    · rename_i fields hu
      simp only [Value.okWide, hu] at hv
      obtain ⟨arr, rfl, hs, _⟩ := hv
      simp only [Ty.top, DR]
      refine ⟨arr, rfl, ?_, ?_⟩
      · have hc := Tys.cells_len fs x
        have h2' : arr.size = fs.width := by simpa [Value.cells, Ty.width] using h2
        exact h2'.trans hc.symm
      · rw [DRA_iff] at h3 ⊢
        intro i c hi
        obtain ⟨u, p1, p2⟩ := h3 i c hi
        exact ⟨u, by simpa [Value.cells] using p1, p2⟩
    · cases hok
  | slice e =>
    simp only [Ty.ok] at hok
    split at hok
    · rename_i te hu
      refine one _ ?_ h3
      cases v <;> first | rfl | (simp [Value.okWide, hu, Cell.okWide, Cell.ok] at hv)
    · cases hok

/-- All arguments. -/
def Tys.tops : (ts : Tys) → ts.Val → List D
  | .nil, _ => []
  | .cons t ts, v => t.top v.1 :: ts.tops v.2
def Tys.oks (P : Program) : Tys → List TypeId → Bool
  | .nil, l => match l with | [] => true | _ :: _ => false
  | .cons t ts, l => match l with | a :: r => Ty.ok P t a && Tys.oks P ts r | [] => false
theorem Tys.tops_len : ∀ (ts : Tys) (l : List TypeId) (v : ts.Val), ts.oks P l = true → (ts.tops v).length = l.length
  | .nil, [], _, _ => rfl
  | .nil, _ :: _, _, h => by simp [Tys.oks] at h
  | .cons t ts, [], _, h => by simp [Tys.oks] at h
  | .cons t ts, a :: r, v, h => by
    simp only [Tys.oks, Bool.and_eq_true] at h
    simp only [Tys.tops, List.length_cons, Tys.tops_len ts r v.2 h.2]
theorem Tys.topsRead {r : Reach} {b0 : Nat} : ∀ (tys : Tys) (ts : List TypeId) (vs : List Value) (ds : List (DataW H)) (ps : List MemPlace), tys.oks P ts = true → (∀ (j : Nat) t v, ts[j]? = some t → vs[j]? = some v → Value.okWide P w r b0 t v) → DataW.TrodAll enc P w 0 (fun _ => true) held ts vs ds ps → ∃ x : tys.Val, tys.wf x ∧ vs.length = ts.length ∧ ∀ g off, (∀ i, g (off + i) = vs[i]?) → DRT (allF w) w g off (tys.tops x)
  | .nil, [], vs, ds, ps, _, _, h => by
    cases vs <;> cases ds <;> first | (exact absurd h id) | exact ⟨(), trivial, rfl, fun g off _ => by simp only [Tys.tops, DRT]⟩
  | .nil, _ :: _, _, _, _, hok, _, _ => by simp [Tys.oks] at hok
  | .cons t ts, [], _, _, _, hok, _, _ => by simp [Tys.oks] at hok
  | .cons t ts, a :: r', vs, ds, ps, hok, hv, h => by
    simp only [Tys.oks, Bool.and_eq_true] at hok
    cases vs with
    | nil => cases ds <;> exact absurd h id
    | cons v vs =>
      cases ds with
      | nil => exact absurd h id
      | cons d ds =>
        obtain ⟨p, q, h1, h2, _⟩ := h
        obtain ⟨x, g1, g2⟩ := Ty.topReads t a v d p hok.1 (hv 0 a v rfl rfl) h1
        obtain ⟨y, k1, k2, k3⟩ := Tys.topsRead ts r' vs ds q hok.2 (fun j t' v' e1 e2 => hv (j + 1) t' v' (by simpa using e1) (by simpa using e2)) h2
        refine ⟨(x, y), ⟨g1, k1⟩, by simp [k2], fun g off hg => ?_⟩
        simp only [Tys.tops, DRT]
        refine ⟨⟨v, by simpa using hg 0, g2⟩, k3 g (off + 1) (fun i => ?_)⟩
        rw [Nat.add_assoc, Nat.add_comm 1 i, hg (i + 1)]; simp
end
end Go.Vw

/-
  From a contract on values of plain types to what a law's row asks of a call. Conditions: closed facts of the program's types.
-/
set_option linter.unusedSimpArgs false
set_option linter.unusedVariables false
namespace Go.Vw
open Go.ChangeShapes Go.WideShapes Go.ChangeAt Go.RowKit

/-- What a contract of data gives at the statement's arguments. -/
theorem post_below {H : Type} {enc : TypeId × Value → H} {P : Program} {f : Func} {s : ChangeSpec} {apart fresh handsOn again : Bool} {W W' : World} {args : Array Value} {v : Value} {ds gs : List (DataW H)} {before pa pv : List MemPlace}
    (hW : DataW.Whole enc P f.params.toList s.vars apart W args.toList ds gs before)
    (hres : ∀ (b : Nat) (sp : Nat → Bool) (hd : Bool), DataW.TrodAll enc P W' b sp hd f.resultTypes.toList (v.resultList f.resultTypes.size) (s.fn H (ds ++ gs)).results [])
    (hargs : ∀ sp : Nat → Bool, (∀ p ∈ before, sp p.block = true) → DataW.TrodAll enc P W' 0 sp true f.params.toList args.toList (s.fn H (ds ++ gs)).args pa)
    (hvars : ∀ sp : Nat → Bool, (∀ p ∈ before, sp p.block = true) → DataW.TrodVars enc P W' sp s.vars (s.fn H (ds ++ gs)).vars pv)
    (hps : before = pa ++ pv) (hb : Below W.heap.size W W')
    (hok : ∀ (j : Nat) (t : TypeId) (r : Value), f.resultTypes[j]? = some t → (v.resultList f.resultTypes.size)[j]? = some r → Value.okWide P W' .any 0 t r) :
    s.post enc P f apart fresh handsOn again W args v W' := by
  have hlt := hW.lt
  have hin : ∀ p ∈ before, (fun b => decide (b < W.heap.size)) p.block = true := fun p hp => decide_eq_true (hlt p hp)
  obtain ⟨_, _, _, _, _, hz, hn⟩ := id hW
  refine ⟨ds, gs, before, [], pa, pv, hW, hres _ _ _, hargs _ hin, hvars _ hin, hb.frame _, fun _ => ⟨hok, _, _, ([] ++ pa) ++ pv, ⟨[] ++ pa, pv, trodAll_append (hargs _ fun _ _ => rfl) (hres _ _ _), hvars _ fun _ _ => rfl, rfl, fun b off hp => ?_, fun ha => ?_⟩, fun p hp _ => ?_⟩⟩
  · have hp' : MemPlace.cell b off ∈ before := by rw [hps]; simpa using hp
    rw [hb.frozen (hlt _ hp')]
    exact hz b off hp'
  · have := hn ha
    rw [hps] at this
    simpa using this
  · rw [hps]; simpa using hp

theorem trodAll_stays {H : Type} {enc : TypeId × Value → H} {P : Program} {W W' : World} {sp' : Nat → Bool} (hl : laidOutB P = true) : ∀ {ts : List TypeId} {vs : List Value} {ds : List (DataW H)} {ps : List MemPlace}, (ts.all fun t => P.readableRec t && decide (t < P.types.size)) = true → DataW.TrodAll enc P W 0 (fun _ => true) true ts vs ds ps → (∀ p ∈ ps, W.sameAt W' p) → (∀ p ∈ ps, sp' p.block = true) → DataW.TrodAll enc P W' 0 sp' true ts vs ds ps
  | [], [], [], _, _, h, _, _ => h
  | [], _ :: _, _, _, _, h, _, _ => absurd h id
  | [], [], _ :: _, _, _, h, _, _ => absurd h id
  | _ :: _, [], _, _, _, h, _, _ => absurd h id
  | _ :: _, _ :: _, [], _, _, h, _, _ => absurd h id
  | t :: ts, v :: vs, d :: ds, _, ht, ⟨p, q, h1, h2, e⟩, hsame, hs => by
    subst e
    simp only [List.all_cons, Bool.and_eq_true, decide_eq_true_eq] at ht
    exact ⟨p, q, WideElems.Trod_stays hl ht.1.1 ht.1.2 h1 (fun x hx => hsame x (by simp [hx])) (fun x hx => hs x (by simp [hx])), trodAll_stays hl ht.2 h2 (fun x hx => hsame x (by simp [hx])) (fun x hx => hs x (by simp [hx])), rfl⟩

/-- **A law without variables of its own.** -/
theorem law_contract {P : Program} {f : FuncId} {fn : Func} {s : ChangeSpec} {rt : TypeId} (tys : Tys) (hl : laidOutB P = true) (hok : tys.oks P fn.params.toList = true) (hp : (fn.params.toList.all fun t => P.readableRec t && decide (t < P.types.size)) = true) (hv : s.vars = []) (hr : fn.resultTypes = #[rt]) (hrt : P.underlying rt = some .bool) (hc : ∀ x : tys.Val, tys.wf x → Ret P f (tys.tops x) (· = .bool true))
    (H : Type) (enc : TypeId × Value → H) (hs : ∀ ds : List (DataW H), ds.length = fn.params.toList.length → (s.fn H ds).results = [.lit (.bool true)] ∧ (s.fn H ds).args = ds ∧ (s.fn H ds).vars = [])
    (W : World) (base : Nat) (args : Array Value) (ds gs : List (DataW H)) (before : List MemPlace)
    (hval : ∀ (j : Nat) t v, fn.params[j]? = some t → args[j]? = some v → Value.okWide P W .any base t v)
    (hW : DataW.Whole enc P fn.params.toList s.vars false W args.toList ds gs before) :
    Calls P f args W fun e W' => ∃ v, e = .returned v ∧ s.post enc P fn false true false false W args v W' := by
  have hW' := hW
  have hlt := hW.lt
  obtain ⟨p, q, hA, hV, rfl, hfz, hnd⟩ := hW
  rw [hv] at hV
  obtain ⟨rfl, rfl⟩ := trodVars_none hV
  obtain ⟨x, hx, hlen, hd⟩ := Tys.topsRead tys fn.params.toList args.toList ds p hok (fun j t v h1 h2 => hval j t v (by simpa using h1) (by simpa using h2)) hA
  have hdl : ds.length = fn.params.toList.length := by
    have aux : ∀ (ts : List TypeId) (vs : List Value) (ds : List (DataW H)) (ps : List MemPlace), DataW.TrodAll enc P W 0 (fun _ => true) true ts vs ds ps → ds.length = ts.length := by
      intro ts
      induction ts with
      | nil => intro vs ds ps h; cases vs <;> cases ds <;> first | (exact absurd h id) | rfl
      | cons t ts ih =>
        intro vs ds ps h
        cases vs with
        | nil => cases ds <;> exact absurd h id
        | cons v vs => cases ds with
          | nil => exact absurd h id
          | cons d ds => obtain ⟨_, q, _, h2, _⟩ := h; simp [ih _ _ _ h2]
    exact aux _ _ _ _ hA
  obtain ⟨s1, s2, s3⟩ := hs ds hdl
  have ht := Tys.tops_len tys fn.params.toList x hok
  refine ((hc x hx).run (allF W) W args (fun b h => h) (by rw [ht, ← hlen]; simp) (hd _ 0 (fun i => by simp))).mono fun e W' ⟨v, r, F', he, hr', hb, _, _, hv'⟩ => ?_
  subst he hr'
  simp only [Vw.DR] at hv'
  subst hv'
  refine ⟨_, rfl, post_below (pa := p) (pv := []) hW' ?_ ?_ ?_ rfl hb ?_⟩
  · intro b sp hd'
    simp only [List.append_nil, s1, hr]
    exact trodAll_cons_mk (shut_bool hrt _) trodAll_mk0
  · intro sp hsp
    simp only [List.append_nil, s2]
    exact trodAll_stays hl hp hA (fun y hy => hb.same (hlt y (by simp [hy]))) (fun y hy => hsp y (by simp [hy]))
  · intro sp hsp
    simp only [List.append_nil, s3, hv]
    rfl
  · exact ok_one hr rfl (okWide_bool_mk hrt _)
end Go.Vw

/-
  A law's rational numbers and intervals as they come in. Conditions: as each says.
-/
set_option linter.unusedVariables false
set_option linter.unusedSimpArgs false
namespace Go.Vw
abbrev tU : Ty := .slice (.int .u32)
abbrev tInt : Ty := .struct (.cons .bool (.cons tU .nil))
abbrev tRat : Ty := .struct (.cons tInt (.cons tU .nil))
abbrev tItv : Ty := .struct (.cons tRat (.cons tRat .nil))
def toN (l : List Int) : List Nat := l.map Int.toNat
theorem toN_len (l : List Int) : (toN l).length = l.length := List.length_map ..
theorem u32_wf {z : Int} (h : (Lit.int .u32 z).wf = true) : 0 ≤ z ∧ z < 4294967296 := by
  simp [Lit.wf, IntKind.min, IntKind.max, IntKind.signed, IntKind.bits] at h
  omega
theorem leU {l : List Int} (h : ∀ z ∈ l, (Lit.int .u32 z).wf = true) : LeD (.sl 1 (Ty.int .u32).cells (0 : Int) l) (u32s (toN l)) := by
  refine LeD.sl (toN_len l).symm fun i (a : Int) b (ha : (l[i]? : Option Int) = some a) hb => ⟨rfl, ?_⟩
  have hm : a ∈ l := List.mem_of_getElem? ha
  have hw := u32_wf (h a hm)
  unfold toN at hb
  rw [List.getElem?_map, ha] at hb
  simp only [Option.map_some, Option.some.injEq] at hb
  subst hb
  exact leN hw.1
theorem wf_toN {l : List Int} (h : ∀ z ∈ l, (Lit.int .u32 z).wf = true) : WF (toN l) := by
  intro x hx
  unfold toN at hx
  obtain ⟨z, hz, rfl⟩ := List.mem_map.1 hx
  have := u32_wf (h z hz)
  show z.toNat < 4294967296
  omega
abbrev vRat : Type := (Bool × List Int × Unit) × List Int × Unit
abbrev vItv : Type := vRat × vRat × Unit
def toR (x : vRat) : R3 := (x.1.1, toN x.1.2.1, toN x.2.1)
def wfRat (x : vRat) : Prop := (x.1.2.1.length ≤ maxLen ∧ ∀ z ∈ x.1.2.1, (Lit.int .u32 z).wf = true) ∧ (x.2.1.length ≤ maxLen ∧ ∀ z ∈ x.2.1, (Lit.int .u32 z).wf = true)
def wfItv (x : vItv) : Prop := wfRat x.1 ∧ wfRat x.2.1
theorem wfRat_of {x : vRat} (h : Ty.wf tRat x) : wfRat x := ⟨h.1.2.1, h.2.1⟩
theorem wfItv_of {x : vItv} (h : Ty.wf tItv x) : wfItv x := ⟨wfRat_of h.1, wfRat_of h.2.1⟩
theorem leRat {x : vRat} (h : wfRat x) : LeL (Ty.cells tRat x) (rC (toR x)) :=
  LeL.cons (LeD.refl _) (LeL.cons (leU h.1.2) (LeL.cons (leU h.2.2) LeL.nil))
theorem leRatD {x : vRat} (h : wfRat x) : LeD (Ty.top tRat x) (rD (toR x)) := LeD.agg (leRat h)
theorem leItvD {x : vItv} (h : wfItv x) : LeD (Ty.top tItv x) (iD (toR x.1) (toR x.2.1)) :=
  LeD.agg (LeL.cons (LeD.refl _) (LeL.cons (leU h.1.1.2) (LeL.cons (leU h.1.2.2) (LeL.cons (LeD.refl _) (LeL.cons (leU h.2.1.2) (LeL.cons (leU h.2.2.2) LeL.nil))))))
/-- A number as it comes in: any limbs, of any length. -/
structure RawR (r : R3) : Prop where
  wm : WF r.2.1
  wd : WF r.2.2
  lm : r.2.1.length ≤ 9223372036854775807
  ld : r.2.2.length ≤ 9223372036854775807
def lightR (r : R3) : Bool := decide (r.2.1.length ≤ 8) && decide (r.2.2.length ≤ 8)
theorem RawR.light {r : R3} (h : RawR r) (hl : lightR r = true) : RatOk r 9 := by
  unfold lightR at hl
  rw [Bool.and_eq_true, decide_eq_true_eq, decide_eq_true_eq] at hl
  exact ⟨h.wm, h.wd, Nat.lt_succ_of_le hl.1, Nat.lt_succ_of_le hl.2⟩
theorem rawR {x : vRat} (h : wfRat x) : RawR (toR x) :=
  ⟨wf_toN h.1.2, wf_toN h.2.2, by show (toN _).length ≤ _; rw [toN_len]; exact h.1.1, by show (toN _).length ≤ _; rw [toN_len]; exact h.2.1⟩
def loR (x : vItv) : R3 := toR x.1
def hiR (x : vItv) : R3 := toR x.2.1
theorem rawLo {x : vItv} (h : wfItv x) : RawR (loR x) := rawR h.1
theorem rawHi {x : vItv} (h : wfItv x) : RawR (hiR x) := rawR h.2
theorem leItv {x : vItv} (h : wfItv x) : LeD (Ty.top tItv x) (iD (loR x) (hiR x)) := leItvD h
theorem i64_wf {z : Int} (h : (Lit.int .i64 z).wf = true) : -9223372036854775808 ≤ z ∧ z < 9223372036854775808 := by
  simp [Lit.wf, IntKind.min, IntKind.max, IntKind.signed, IntKind.bits] at h
  omega
end Go.Vw

set_option linter.unusedVariables false
set_option linter.unusedSimpArgs false
set_option maxHeartbeats 4000000
namespace Go.Proofs.YtjjefhbceoeibaaGreat
open Go.Vw
attribute [local irreducible] awp awpL awpR

theorem made_Light (r : R3) (h : RawR r) : Ret Tryz.prog 19 [rD r] (· = .bool (lightR r)) := by
  obtain ⟨h1, h2, h3, h4⟩ := h
  unfold lightR
  obtain ⟨x, m, d⟩ := r
  simp only at h3 h4 ⊢
  rw [show decide (m.length ≤ 8) = decide ((m.length : Int) ≤ 8) from decide_eq_decide.2 (by omega), show decide (d.length ≤ 8) = decide ((d.length : Int) ≤ 8) from decide_eq_decide.2 (by omega)]
  refine ret_of_awp tab Tryz.func19 rfl rfl (Nat.le_of_ble_eq_true rfl) (fun w0 F0 => ?_)
  repeat' (first
    | (show awpL _ _ _ _ _; first | refine goL ?_ | (refine gdLD rfl rfl (fun _ => ?_) (fun _ => ?_) <;> try (exfalso; omega)) | (refine gdLN rfl rfl (fun _ => ?_) (fun _ => ?_) <;> try (exfalso; omega)) | refine gdL rfl rfl (fun _ => ?_) (fun _ => ?_))
    | (show awp _ _ _ _; first | refine goA ?_ | (refine awp_condD rfl (fun _ => ?_) (fun _ => ?_) <;> try (exfalso; omega)) | (refine awp_condN rfl (fun _ => ?_) (fun _ => ?_) <;> try (exfalso; omega)) | refine awp_cond rfl (fun _ => ?_) (fun _ => ?_))
    | (show andThen _ _ _ _; first | refine goN ?_)
    | (show inBlock _ _ _ _; first | refine goB ?_)
    | (show awpR _ _ _ _ _ _; first | refine goR ?_ | (refine gdRD rfl rfl (fun _ => ?_) (fun _ => ?_) <;> try (exfalso; omega)) | (refine gdRN rfl rfl (fun _ => ?_) (fun _ => ?_) <;> try (exfalso; omega)) | refine gdR rfl rfl (fun _ => ?_) (fun _ => ?_))
    | (show retPost _ _ _ _ _; first | refine finF true rfl rfl sc ?_ | refine finF false rfl rfl sc ?_ | refine finC false rfl rfl sc sc ?_ | refine finN rfl rfl sc ?_ | refine finL true rfl rfl sc rfl (LeR.cons rfl leL LeR.nil) ?_ | refine finE true rfl rfl sc ?_ | refine finE false rfl rfl sc ?_))
  all_goals first | rfl | (rename_i hc; simp [hc])
theorem made_LightInterval (a b : R3) (ha : RawR a) (hb : RawR b) : Ret Tryz.prog 54 [iD a b] (· = .bool (lightR a && lightR b)) := by
  have h1 := made_Light a ha
  have h2 := made_Light b hb
  generalize lightR a = x at *
  generalize lightR b = y at *
  cases x <;> cases y
  all_goals
    refine ret_of_awp tab Tryz.func54 rfl rfl (Nat.le_of_ble_eq_true rfl) (fun w0 F0 => ?_)
    repeat' (first
      | (show awpL _ _ _ _ _; first | refine goL ?_ | refine cl 19 tt rfl rfl rfl (hr := h1) (k := ?_) | refine cl 19 tt rfl rfl rfl (hr := h2) (k := ?_) | (refine gdLD rfl rfl (fun _ => ?_) (fun _ => ?_) <;> try (exfalso; omega)) | (refine gdLN rfl rfl (fun _ => ?_) (fun _ => ?_) <;> try (exfalso; omega)) | refine gdL rfl rfl (fun _ => ?_) (fun _ => ?_))
      | (show awp _ _ _ _; first | refine goA ?_ | (refine awp_condD rfl (fun _ => ?_) (fun _ => ?_) <;> try (exfalso; omega)) | (refine awp_condN rfl (fun _ => ?_) (fun _ => ?_) <;> try (exfalso; omega)) | refine awp_cond rfl (fun _ => ?_) (fun _ => ?_))
      | (show andThen _ _ _ _; first | refine goN ?_)
      | (show inBlock _ _ _ _; first | refine goB ?_)
      | (show awpR _ _ _ _ _ _; first | refine goR ?_ | refine clR 19 tt rfl rfl rfl (hr := h1) (k := ?_) | refine clR 19 tt rfl rfl rfl (hr := h2) (k := ?_) | (refine gdRD rfl rfl (fun _ => ?_) (fun _ => ?_) <;> try (exfalso; omega)) | (refine gdRN rfl rfl (fun _ => ?_) (fun _ => ?_) <;> try (exfalso; omega)) | refine gdR rfl rfl (fun _ => ?_) (fun _ => ?_))
      | (show retPost _ _ _ _ _; first | refine finF true rfl rfl sc ?_ | refine finF false rfl rfl sc ?_ | refine finC false rfl rfl sc sc ?_ | refine finN rfl rfl sc ?_ | refine finL true rfl rfl sc rfl (LeR.cons rfl leL LeR.nil) ?_ | refine finE true rfl rfl sc ?_ | refine finE false rfl rfl sc ?_))
    rfl
theorem law04_light (a b : R3) (ha : RawR a) (hb : RawR b) : Ret Tryz.prog 10 [iD a b] (· = .bool (lightR a && lightR b)) := by
  have h1 := made_LightInterval a b ha hb
  refine ret_of_awp tab Tryz.func10 rfl rfl (Nat.le_of_ble_eq_true rfl) (fun w0 F0 => ?_)
  repeat' (first
    | (show awpL _ _ _ _ _; first | refine goL ?_ | refine cl 54 tt rfl rfl rfl (hr := h1) (k := ?_) | (refine gdLD rfl rfl (fun _ => ?_) (fun _ => ?_) <;> try (exfalso; omega)) | (refine gdLN rfl rfl (fun _ => ?_) (fun _ => ?_) <;> try (exfalso; omega)) | refine gdL rfl rfl (fun _ => ?_) (fun _ => ?_))
    | (show awp _ _ _ _; first | refine goA ?_ | (refine awp_condD rfl (fun _ => ?_) (fun _ => ?_) <;> try (exfalso; omega)) | (refine awp_condN rfl (fun _ => ?_) (fun _ => ?_) <;> try (exfalso; omega)) | refine awp_cond rfl (fun _ => ?_) (fun _ => ?_))
    | (show andThen _ _ _ _; first | refine goN ?_)
    | (show inBlock _ _ _ _; first | refine goB ?_)
    | (show awpR _ _ _ _ _ _; first | refine goR ?_ | refine clR 54 tt rfl rfl rfl (hr := h1) (k := ?_) | (refine gdRD rfl rfl (fun _ => ?_) (fun _ => ?_) <;> try (exfalso; omega)) | (refine gdRN rfl rfl (fun _ => ?_) (fun _ => ?_) <;> try (exfalso; omega)) | refine gdR rfl rfl (fun _ => ?_) (fun _ => ?_))
    | (show retPost _ _ _ _ _; first | refine finF true rfl rfl sc ?_ | refine finF false rfl rfl sc ?_ | refine finC false rfl rfl sc sc ?_ | refine finN rfl rfl sc ?_ | refine finL true rfl rfl sc rfl (LeR.cons rfl leL LeR.nil) ?_ | refine finE true rfl rfl sc ?_ | refine finE false rfl rfl sc ?_))
  rfl
theorem ok_frac {a b : Int} (hb : b ≠ 0) (ha : a.natAbs < 18446744073709551616) (hb2 : b.natAbs < 18446744073709551616) : okQ 10 (Rat.divInt a b) :=
  okQ_divInt hb (Nat.lt_of_le_of_lt (u64_len ha) (by decide)) (Nat.lt_of_le_of_lt (u64_len hb2) (by decide))
theorem law04_of (a b c d : Int) (ha : -9223372036854775808 ≤ a) (ha2 : a < 9223372036854775808) (hb : -9223372036854775808 ≤ b) (hb2 : b < 9223372036854775808) (h0 : b ≠ 0) (hc : -9223372036854775808 ≤ c) (hc2 : c < 9223372036854775808) (hd : -9223372036854775808 ≤ d) (hd2 : d < 9223372036854775808) (h1 : d ≠ 0) : Ret Tryz.prog 56 [.int .i64 a, .int .i64 b, .int .i64 c, .int .i64 d] (· = iQ (Rat.divInt a b, Rat.divInt c d)) := by
  have f1 := ref03_Fraction a b ha ha2 hb hb2 h0
  have f2 := ref03_Fraction c d hc hc2 hd hd2 h1
  refine ret_of_awp tab Tryz.func56 rfl rfl (Nat.le_of_ble_eq_true rfl) (fun w0 F0 => ?_)
  repeat' (first
    | (show awpL _ _ _ _ _; first | refine goL ?_ | refine cl 92 tt rfl rfl rfl (hr := f1) (k := ?_) | refine cl 92 tt rfl rfl rfl (hr := f2) (k := ?_) | (refine gdLD rfl rfl (fun _ => ?_) (fun _ => ?_) <;> try (exfalso; omega)) | (refine gdLN rfl rfl (fun _ => ?_) (fun _ => ?_) <;> try (exfalso; omega)) | refine gdL rfl rfl (fun _ => ?_) (fun _ => ?_))
    | (show awp _ _ _ _; first | refine goA ?_ | (refine awp_condD rfl (fun _ => ?_) (fun _ => ?_) <;> try (exfalso; omega)) | (refine awp_condN rfl (fun _ => ?_) (fun _ => ?_) <;> try (exfalso; omega)) | refine awp_cond rfl (fun _ => ?_) (fun _ => ?_))
    | (show andThen _ _ _ _; first | refine goN ?_)
    | (show inBlock _ _ _ _; first | refine goB ?_)
    | (show awpR _ _ _ _ _ _; first | refine goR ?_ | refine clR 92 tt rfl rfl rfl (hr := f1) (k := ?_) | refine clR 92 tt rfl rfl rfl (hr := f2) (k := ?_) | (refine gdRD rfl rfl (fun _ => ?_) (fun _ => ?_) <;> try (exfalso; omega)) | (refine gdRN rfl rfl (fun _ => ?_) (fun _ => ?_) <;> try (exfalso; omega)) | refine gdR rfl rfl (fun _ => ?_) (fun _ => ?_))
    | (show retPost _ _ _ _ _; first | refine finF true rfl rfl sc ?_ | refine finF false rfl rfl sc ?_ | refine finC false rfl rfl sc sc ?_ | refine finN rfl rfl sc ?_ | refine finL true rfl rfl sc rfl (LeR.cons rfl leL LeR.nil) ?_ | refine finE true rfl rfl sc ?_ | refine finE false rfl rfl sc ?_))
  rfl
theorem law04_awake : Ret Tryz.prog 12 [] (· = .bool true) := by
  have f2 := ref03_FromIntQ 2 (by decide) (by decide)
  have k2 : okQ 10 ((2 : Int) : Rat) := ok_frac (a := 2) (b := 1) (by decide) (by decide) (by decide)
  have r1 := interval_RootN (rq ((2 : Int) : Rat)) 2 (by decide) (ok_rq (k2.mono (by decide))) (by rw [rv_rq]; decide)
  rw [rv_rq, show rootI ((2 : Int) : Rat) 2 = (Rat.divInt 5 4, Rat.divInt 3 2) by decide +kernel] at r1
  have o1 := law04_of 5 4 3 2 (by decide) (by decide) (by decide) (by decide) (by decide) (by decide) (by decide) (by decide) (by decide) (by decide)
  have k54 : okQ 10 (Rat.divInt 5 4) := ok_frac (by decide) (by decide) (by decide)
  have k32 : okQ 10 (Rat.divInt 3 2) := ok_frac (by decide) (by decide) (by decide)
  have s1 := ref04_SameI (Rat.divInt 5 4, Rat.divInt 3 2) (Rat.divInt 5 4, Rat.divInt 3 2) ⟨k54.mono (by decide), k32.mono (by decide)⟩ ⟨k54.mono (by decide), k32.mono (by decide)⟩
  rw [decide_eq_true rfl] at s1
  have kn1 : okQ 10 (Rat.divInt (-1) 1) := ok_frac (by decide) (by decide) (by decide)
  have k21 : okQ 10 (Rat.divInt 2 1) := ok_frac (by decide) (by decide) (by decide)
  have k31 : okQ 10 (Rat.divInt 3 1) := ok_frac (by decide) (by decide) (by decide)
  have k41 : okQ 10 (Rat.divInt 4 1) := ok_frac (by decide) (by decide) (by decide)
  have kn4 : okQ 10 (Rat.divInt (-4) 1) := ok_frac (by decide) (by decide) (by decide)
  have k81 : okQ 10 (Rat.divInt 8 1) := ok_frac (by decide) (by decide) (by decide)
  have k01 : okQ 10 (Rat.divInt 0 1) := ok_frac (by decide) (by decide) (by decide)
  have o2 := law04_of (-1) 1 2 1 (by decide) (by decide) (by decide) (by decide) (by decide) (by decide) (by decide) (by decide) (by decide) (by decide)
  have o3 := law04_of 3 1 4 1 (by decide) (by decide) (by decide) (by decide) (by decide) (by decide) (by decide) (by decide) (by decide) (by decide)
  have o4 := law04_of (-4) 1 8 1 (by decide) (by decide) (by decide) (by decide) (by decide) (by decide) (by decide) (by decide) (by decide) (by decide)
  have o5 := law04_of 0 1 4 1 (by decide) (by decide) (by decide) (by decide) (by decide) (by decide) (by decide) (by decide) (by decide) (by decide)
  have m1 := interval_Mul (rq (Rat.divInt (-1) 1)) (rq (Rat.divInt 2 1)) (rq (Rat.divInt 3 1)) (rq (Rat.divInt 4 1)) (ok_rq (kn1.mono (by decide))) (ok_rq (k21.mono (by decide))) (ok_rq (k31.mono (by decide))) (ok_rq (k41.mono (by decide)))
  rw [rv_rq, rv_rq, rv_rq, rv_rq, show mulI (takeI (Rat.divInt (-1) 1) (Rat.divInt 2 1)) (takeI (Rat.divInt 3 1) (Rat.divInt 4 1)) = (Rat.divInt (-4) 1, Rat.divInt 8 1) by decide +kernel] at m1
  have s2 := ref04_SameI (Rat.divInt (-4) 1, Rat.divInt 8 1) (Rat.divInt (-4) 1, Rat.divInt 8 1) ⟨kn4.mono (by decide), k81.mono (by decide)⟩ ⟨kn4.mono (by decide), k81.mono (by decide)⟩
  rw [decide_eq_true rfl] at s2
  have q1 := interval_Square (rq (Rat.divInt (-1) 1)) (rq (Rat.divInt 2 1)) (ok_rq (kn1.mono (by decide))) (ok_rq (k21.mono (by decide)))
  rw [rv_rq, rv_rq, show sqI (takeI (Rat.divInt (-1) 1) (Rat.divInt 2 1)) = (Rat.divInt 0 1, Rat.divInt 4 1) by decide +kernel] at q1
  have s3 := ref04_SameI (Rat.divInt 0 1, Rat.divInt 4 1) (Rat.divInt 0 1, Rat.divInt 4 1) ⟨k01.mono (by decide), k41.mono (by decide)⟩ ⟨k01.mono (by decide), k41.mono (by decide)⟩
  rw [decide_eq_true rfl] at s3
  clear k2 k54 k32 kn1 k21 k31 k41 kn4 k81 k01
  generalize (Rat.divInt 5 4, Rat.divInt 3 2) = i1 at *
  generalize (Rat.divInt (-4) 1, Rat.divInt 8 1) = i4 at *
  generalize (Rat.divInt 0 1, Rat.divInt 4 1) = i5 at *
  generalize Rat.divInt (-1) 1 = u1 at *
  generalize Rat.divInt 2 1 = u2 at *
  generalize Rat.divInt 3 1 = u3 at *
  generalize Rat.divInt 4 1 = u4 at *
  generalize ((2 : Int) : Rat) = z2 at *
  refine ret_of_awp tab Tryz.func12 rfl rfl (Nat.le_of_ble_eq_true rfl) (fun w0 F0 => ?_)
  repeat' (first
    | (show awpL _ _ _ _ _; first | refine goL ?_ | refine cl 26 tt rfl rfl rfl (hr := f2) (k := ?_) | refine cl 21 tt rfl rfl rfl (hr := r1) (k := ?_) | refine cl 56 tt rfl rfl rfl (hr := o1) (k := ?_) | refine cl 35 tt rfl rfl rfl (hr := s1) (k := ?_) | refine cl 56 tt rfl rfl rfl (hr := o2) (k := ?_) | refine cl 56 tt rfl rfl rfl (hr := o3) (k := ?_) | refine cl 13 tt rfl rfl rfl (hr := m1) (k := ?_) | refine cl 56 tt rfl rfl rfl (hr := o4) (k := ?_) | refine cl 35 tt rfl rfl rfl (hr := s2) (k := ?_) | refine cl 14 tt rfl rfl rfl (hr := q1) (k := ?_) | refine cl 56 tt rfl rfl rfl (hr := o5) (k := ?_) | refine cl 35 tt rfl rfl rfl (hr := s3) (k := ?_) | (refine gdLD rfl rfl (fun _ => ?_) (fun _ => ?_) <;> try (exfalso; omega)) | (refine gdLN rfl rfl (fun _ => ?_) (fun _ => ?_) <;> try (exfalso; omega)) | refine gdL rfl rfl (fun _ => ?_) (fun _ => ?_))
    | (show awp _ _ _ _; first | refine goA ?_ | refine awp_reg 2 5 mixed (by kernel_rfl) (by kernel_rfl) ?_ | (refine awp_condD rfl (fun _ => ?_) (fun _ => ?_) <;> try (exfalso; omega)) | (refine awp_condN rfl (fun _ => ?_) (fun _ => ?_) <;> try (exfalso; omega)) | refine awp_cond rfl (fun _ => ?_) (fun _ => ?_))
    | (show andThen _ _ _ _; first | refine goN ?_)
    | (show inBlock _ _ _ _; first | refine goB ?_)
    | (show awpR _ _ _ _ _ _; first | refine goR ?_ | refine clR 26 tt rfl rfl rfl (hr := f2) (k := ?_) | refine clR 21 tt rfl rfl rfl (hr := r1) (k := ?_) | refine clR 56 tt rfl rfl rfl (hr := o1) (k := ?_) | refine clR 35 tt rfl rfl rfl (hr := s1) (k := ?_) | refine clR 56 tt rfl rfl rfl (hr := o2) (k := ?_) | refine clR 56 tt rfl rfl rfl (hr := o3) (k := ?_) | refine clR 13 tt rfl rfl rfl (hr := m1) (k := ?_) | refine clR 56 tt rfl rfl rfl (hr := o4) (k := ?_) | refine clR 35 tt rfl rfl rfl (hr := s2) (k := ?_) | refine clR 14 tt rfl rfl rfl (hr := q1) (k := ?_) | refine clR 56 tt rfl rfl rfl (hr := o5) (k := ?_) | refine clR 35 tt rfl rfl rfl (hr := s3) (k := ?_) | (refine gdRD rfl rfl (fun _ => ?_) (fun _ => ?_) <;> try (exfalso; omega)) | (refine gdRN rfl rfl (fun _ => ?_) (fun _ => ?_) <;> try (exfalso; omega)) | refine gdR rfl rfl (fun _ => ?_) (fun _ => ?_))
    | (show retPost _ _ _ _ _; first | refine finF true rfl rfl sc ?_ | refine finF false rfl rfl sc ?_ | refine finC false rfl rfl sc sc ?_ | refine finN rfl rfl sc ?_ | refine finL true rfl rfl sc rfl (LeR.cons rfl leL LeR.nil) ?_ | refine finE true rfl rfl sc ?_ | refine finE false rfl rfl sc ?_))
  rfl
theorem tmodFact (k n : Int) (h : 0 < n) : -n < k.tmod n ∧ k.tmod n < n ∧ k % n = if k.tmod n < 0 then k.tmod n + n else k.tmod n := by
  have h1 := Int.tmod_lt_of_pos k h
  have h2 := Int.lt_tmod_of_pos k h
  have h3 := Int.emod_nonneg k (show n ≠ 0 by omega)
  have h4 := Int.emod_lt_of_pos k h
  have e1 := Int.mul_tdiv_add_tmod k n
  have e2 := Int.mul_ediv_add_emod k n
  refine ⟨h2, h1, ?_⟩
  have hd : n * (k.tdiv n - k / n) = k % n - k.tmod n := by rw [Int.mul_sub]; omega
  split
  · have hb : -(2 * n) < n * (k.tdiv n - k / n) ∧ n * (k.tdiv n - k / n) < 2 * n ∧ 0 < n * (k.tdiv n - k / n) := by omega
    have h5 : 0 < k.tdiv n - k / n := Int.pos_of_mul_pos_right hb.2.2 h
    have h6 : k.tdiv n - k / n < 2 := by
      rcases Int.lt_or_le (k.tdiv n - k / n) 2 with h7 | h7
      · exact h7
      · have := Int.mul_le_mul_of_nonneg_left h7 (Int.le_of_lt h); omega
    rw [show k.tdiv n - k / n = 1 by omega] at hd
    omega
  · have hb : -n < n * (k.tdiv n - k / n) ∧ n * (k.tdiv n - k / n) < n := by omega
    have h5 : -1 < k.tdiv n - k / n := by
      rcases Int.lt_or_le (-1) (k.tdiv n - k / n) with h7 | h7
      · exact h7
      · have := Int.mul_le_mul_of_nonneg_left h7 (Int.le_of_lt h); omega
    have h6 : k.tdiv n - k / n < 1 := by
      rcases Int.lt_or_le (k.tdiv n - k / n) 1 with h7 | h7
      · exact h7
      · have := Int.mul_le_mul_of_nonneg_left h7 (Int.le_of_lt h); omega
    rw [show k.tdiv n - k / n = 0 by omega] at hd
    omega
theorem made_ModI (k n : Int) (hk : -9223372036854775808 ≤ k) (hk' : k < 9223372036854775808) (h : 0 < n) (h' : n < 1000000) : Ret Tryz.prog 20 [.int .i64 k, .int .i64 n] (· = .int .i64 (k % n)) := by
  obtain ⟨t1, t2, t3⟩ := tmodFact k n h
  rw [t3]
  refine ret_of_awp tab Tryz.func20 rfl rfl (Nat.le_of_ble_eq_true rfl) (fun w0 F0 => ?_)
  repeat' (first
    | (show awpL _ _ _ _ _; first | refine goL ?_ | (refine gdLD rfl rfl (fun _ => ?_) (fun _ => ?_) <;> try (exfalso; omega)) | (refine gdLN rfl rfl (fun _ => ?_) (fun _ => ?_) <;> try (exfalso; omega)) | refine gdL rfl rfl (fun _ => ?_) (fun _ => ?_))
    | (show awp _ _ _ _; first | refine goA ?_ | (refine awp_condD rfl (fun _ => ?_) (fun _ => ?_) <;> try (exfalso; omega)) | (refine awp_condN rfl (fun _ => ?_) (fun _ => ?_) <;> try (exfalso; omega)) | refine awp_cond rfl (fun _ => ?_) (fun _ => ?_))
    | (show andThen _ _ _ _; first | refine goN ?_)
    | (show inBlock _ _ _ _; first | refine goB ?_)
    | (show awpR _ _ _ _ _ _; first | refine goR ?_ | (refine gdRD rfl rfl (fun _ => ?_) (fun _ => ?_) <;> try (exfalso; omega)) | (refine gdRN rfl rfl (fun _ => ?_) (fun _ => ?_) <;> try (exfalso; omega)) | refine gdR rfl rfl (fun _ => ?_) (fun _ => ?_))
    | (show retPost _ _ _ _ _; first | refine finF true rfl rfl sc ?_ | refine finF false rfl rfl sc ?_ | refine finC false rfl rfl sc sc ?_ | refine finN rfl rfl sc ?_ | refine finL true rfl rfl sc rfl (LeR.cons rfl leL LeR.nil) ?_ | refine finE true rfl rfl sc ?_ | refine finE false rfl rfl sc ?_))
  · rename_i hc; rw [if_pos hc]
  · rename_i hc; rw [if_neg hc]
theorem ref03_SameQ (x y : Rat) (hx : okQ 100000000000 x) (hy : okQ 100000000000 y) : Ret Tryz.prog 50 [qD x, qD y] (· = .bool (decide (x = y))) := by
  have := ref03_Same (rq x) (rq y) (okR_of hx (by decide)) (okR_of hy (by decide))
  rw [show decide (rq x = rq y) = decide (x = y) from decide_eq_decide.2 ⟨rq_inj, fun h => by rw [h]⟩] at this
  exact this
end Go.Proofs.YtjjefhbceoeibaaGreat
