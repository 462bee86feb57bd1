/-
  A statement of the seat: what its contract is, and the claim. Conditions: as each says.
-/
import Derived.Test.YtejigedigmagdaaGreatA11
import Derived.Test.YtejigedigmagdaaGreatA09
set_option linter.unusedVariables false
set_option linter.unusedSimpArgs false
set_option maxHeartbeats 8000000
namespace Go.Proofs.YtejigedigmagdaaGreat
open Go.Vw
attribute [local irreducible] awp awpL awpR awpAC

def radQ (v : Int) : Rat := absQ (numQ v) + Rat.divInt 1 2
theorem abs_nonneg (x : Rat) : 0 ≤ absQ x := by unfold absQ; split <;> grind
theorem half_p : (0 : Rat) < Rat.divInt 1 2 := by decide +kernel
theorem radQ_pos (v : Int) : 0 < radQ v := by
  have := abs_nonneg (numQ v)
  have := half_p
  unfold radQ
  grind
theorem radQ_ok (v : Int) : okQ 4 (radQ v) := ((absQ_ok (numQ2 v)).add (sm2_ok (q := Rat.divInt 1 2) (by decide +kernel))).mono (by decide)
theorem law22_radius (v : Int) (h1 : -9223372036854775808 ≤ v) (h2 : v < 9223372036854775808) : Ret Tryz.prog 16 [.int .i64 v] (· = qD (radQ v)) := by
  have n1 := made_Number v h1 h2
  have o1 := numQ2 v
  have oh : okQ 2 (Rat.divInt 1 2) := sm2_ok (by decide +kernel)
  have a1 := ref03_AbsQ (numQ v) (o1.mono (by decide))
  have oa := absQ_ok o1
  have f1 := ref03_FractionQ 1 2 (by decide) (by decide) (by decide) (by decide)
  have a2 := ref03_AddQ (absQ (numQ v)) (Rat.divInt 1 2) (oa.mono (by decide)) (oh.mono (by decide))
  unfold radQ
  clear o1 oh oa
  generalize absQ (numQ v) + Rat.divInt 1 2 = r at *
  generalize absQ (numQ v) = b at *
  generalize numQ v = a at *
  generalize Rat.divInt 1 2 = h at *
  refine ret_of_awp tab Tryz.func16 rfl rfl (Nat.le_of_ble_eq_true rfl) (fun w0 F0 => ?_)
  repeat' (first | refine wG ?_ | refine wC n1 ?_ | refine wC a1 ?_ | refine wC f1 ?_ | refine wC a2 ?_ | refine wS ?_ ?_ <;> intro _ | refine finG ?_)
  rfl
theorem chk_made {x : List Rat} {k : Rat} (h0 : x ≠ []) (hl : x.length ≤ 6) (hk : 0 < k) : chkErr x k = 0 := by
  unfold chkErr
  rw [if_neg (fun e => h0 (List.length_eq_zero_iff.1 e)), if_neg (by omega), if_neg (by grind)]
theorem ref16_MedianQ (l : List Rat) (h0 : 0 < l.length) (hn : l.length ≤ 200) (hl : ∀ q ∈ l, okQ 1000 q) : Ret Tryz.prog 28 [qsD l] (· = .tup [qD (medLo l), qD (medHi l), .int .i64 0]) := by
  have h := ref16_Median (l.map rq) (by rw [List.length_map]; exact h0) (by rw [List.length_map]; exact hn) (rqs_ok hl)
  rw [map_rv_rqL] at h
  exact h.args (leQRs l (LeT.refl _))
theorem med_ok22 {k : Nat} {l : List Rat} (h : ∀ q ∈ l, okQ k q) (h1 : 1 < k) : okQ k (medLo l) ∧ okQ k (medHi l) := ⟨ok_cf (srt_ok h) h1 _, ok_cf (srt_ok h) h1 _⟩
theorem medians_true (raw : List Int) (k : Int) (nr : raw.length ≤ 9223372036854775807) (xr : I64 raw) (k1 : -9223372036854775808 ≤ k) (k2 : k < 9223372036854775808) : Ret Tryz.prog 7 [i64s raw, .int .i64 k] (· = .bool true) := by
  have aw := law22_awake
  have nm := made_Numbers raw 6 nr xr (by decide)
  have ol := nums2 raw 6
  have ll : ((raw.take 6).map numQ).length ≤ 6 := by rw [List.length_map, List.length_take]; omega
  generalize (raw.take 6).map numQ = x at *
  have r1 := law22_radius k k1 k2
  have or := radQ_ok k
  have pr := radQ_pos k
  generalize radQ k = r at *
  clear nr xr k1 k2
  by_cases x0 : x = []
  · have lx : x.length = 0 := by rw [x0]; rfl
    clear ol x0
    refine ret_of_awp tab Tryz.func7 rfl rfl (Nat.le_of_ble_eq_true rfl) (fun w0 F0 => ?_)
    repeat' (first | refine wG ?_ | refine wC nm ?_ | refine wC aw ?_ | refine rg 7 20 ?_ | refine wS ?_ ?_ <;> intro _ | refine finG ?_)
    rfl
  · have lx := ne_len x0
    have f1 := ref03_FromIntW 10 (by decide) (by decide)
    rw [show ((10 : Int) : Rat) = 10 from rfl] at f1
    have o10 : okQ 2 (10 : Rat) := sm2_ok (by decide +kernel)
    have q1 := ref03_QuoQ r 10 (or.mono (by decide)) (o10.mono (by decide)) (by decide)
    have ok : okQ 100 (r / 10) := (or.div o10 (by decide)).mono (by decide)
    have pk : 0 < r / 10 := by
      have : r / 10 * 10 = r := Rat.div_mul_cancel (by decide)
      generalize r / 10 = k at *
      grind
    generalize r / 10 = v at *
    have ol1 : ∀ y ∈ x, okQ 100 y := fun y hy => (ol y hy).mono (by decide)
    obtain ⟨lo, hi, at_⟩ := HubAt.ex pk x0
    have he := chk_made x0 (by omega) pk
    have h1 := mroots_HuberOk x v (by omega) ol1 ok pk he at_
    have oI := HubAt.ok (by omega) ol1 ok at_
    have sp := (at_.spec pk).median pk x0
    have md := ref16_MedianQ x lx (by omega) (fun y hy => (ol y hy).mono (by decide))
    obtain ⟨oml, omh⟩ := med_ok22 ol (by decide)
    rw [show (srt x).getD ((x.length - 1) / 2) 0 = medLo x by unfold medLo; congr 1; omega, show (srt x).getD (x.length / 2) 0 = medHi x from rfl] at sp
    generalize medLo x = ml at *
    generalize medHi x = mh at *
    have s1 := ref03_SubQ ml v (oml.mono (by decide)) (ok.mono (by decide))
    have a1 := ref03_AddQ mh v (omh.mono (by decide)) (ok.mono (by decide))
    have l1 := ref03_LessQ lo (ml - v) (oI.1.mono (by decide)) ((oml.sub ok).mono (by decide))
    have l2 := ref03_LessQ (mh + v) hi ((omh.add ok).mono (by decide)) (oI.2.mono (by decide))
    rw [decide_eq_false (Rat.not_lt.2 sp.1)] at l1
    rw [decide_eq_false (Rat.not_lt.2 sp.2)] at l2
    clear ol ol1 at_ oI oml omh ok or pr pk sp o10 x0
    generalize ml - v = u1 at *
    generalize mh + v = u2 at *
    generalize (10 : Rat) = ten at *
    refine ret_of_awp tab Tryz.func7 rfl rfl (Nat.le_of_ble_eq_true rfl) (fun w0 F0 => ?_)
    repeat' (first | refine wG ?_ | refine wC nm ?_ | refine wC r1 ?_ | refine wC f1 ?_ | refine wC q1 ?_ | refine wC h1 ?_ | refine wC md ?_ | refine wC aw ?_ | refine wC s1 ?_ | refine wC a1 ?_ | refine wC l1 ?_ | refine wC l2 ?_ | refine rg 7 20 ?_ | refine wS ?_ ?_ <;> intro _ | refine finG ?_)
    all_goals rfl
end Go.Proofs.YtejigedigmagdaaGreat
