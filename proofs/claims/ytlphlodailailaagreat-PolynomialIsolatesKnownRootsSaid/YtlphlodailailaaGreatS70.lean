/-
  A statement of the seat: what its contract is, and the claim. Conditions: as each says.
-/
import Derived.Test.YtlphlodailailaaGreatY34
import Derived.Test.YtlphlodailailaaGreatA10
set_option linter.unusedVariables false
set_option linter.unusedSimpArgs false
set_option maxHeartbeats 8000000
namespace Go.Proofs.YtlphlodailailaaGreat
open Go.Vw
attribute [local irreducible] awp awpL awpR awpAC

theorem isolatesK_true (a : List Int) (lo hi : Int) (na : a.length ≤ 9223372036854775807) (xa : I64 a) (l1 : -9223372036854775808 ≤ lo) (l2 : lo < 9223372036854775808) (h1 : -9223372036854775808 ≤ hi) (h2 : hi < 9223372036854775808) : Ret Tryz.prog 10 [i64s a, .int .i64 lo, .int .i64 hi] (· = .bool true) := by
  have aw := law05_awake
  have nm := made_Numbers a 5 na xa (by decide)
  have n1 := made_Number lo l1 l2
  have n2 := made_Number hi h1 h2
  have ol := nums2 a 5
  have ox := numQ2 lo
  have oy := numQ2 hi
  have bx := numQ_bd lo
  have bY := numQ_bd hi
  have ll : ((a.take 5).map numQ).length ≤ 5 := by rw [List.length_map, List.length_take]; omega
  generalize (a.take 5).map numQ = r at *
  generalize numQ lo = x at *
  generalize numQ hi = y at *
  clear na xa l1 l2 h1 h2
  have pr := law05_product r ll ol
  have ls := ref03_LessQ y x (oy.mono (by decide)) (ox.mono (by decide))
  by_cases hxy : y < x
  · rw [decide_eq_true hxy] at ls
    generalize mP r.reverse = p at *
    clear ox oy bx bY ol
    refine ret_of_awp tab Tryz.func10 rfl rfl (Nat.le_of_ble_eq_true rfl) (fun w0 F0 => ?_)
    repeat' (first
      | (show awpL _ _ _ _ _; first | refine goL ?_ | refine cl 24 tt rfl rfl rfl (hr := nm) (k := ?_) | refine cl 25 tt rfl rfl rfl (hr := pr) (k := ?_) | refine cl 14 tt rfl rfl rfl (hr := n1) (k := ?_) | refine cl 14 tt rfl rfl rfl (hr := n2) (k := ?_) | refine cl 28 tt rfl rfl rfl (hr := ls) (k := ?_) | refine cl 15 tt rfl rfl rfl (hr := aw) (k := ?_) | (refine gdLG ?_ ?_ <;> intro _ <;> try (exfalso; omega)))
      | (show awp _ _ _ _; first | refine goA ?_ | (refine cdG ?_ ?_ <;> intro _ <;> try (exfalso; omega)))
      | (show andThen _ _ _ _; refine goN ?_)
      | (show inBlock _ _ _ _; refine goB ?_)
      | (show retPost _ _ _ _ _; refine finG ?_))
    all_goals simp
  · rw [decide_eq_false hxy] at ls
    have hr : ∀ s ∈ r.reverse, okQ 2 s := fun s hs => ol s (List.mem_reverse.1 hs)
    have e1 : mP r.reverse = mulT (mP r.reverse) [1] := (mP_tr _).1.ext (tr_mulT _ _) (eqv_of_eval fun x => by rw [ev_mE, ev_mP, ev_one, Rat.mul_one])
    obtain ⟨t1, t2, t3, t4⟩ := mP_tr r.reverse
    rw [List.length_reverse] at t4
    have ht := mP_ht hr
    rw [List.length_reverse] at ht
    obtain ⟨c1, c2, c3⟩ := known_ctr (.inl rfl) e1 hr (by rw [List.length_reverse]; exact ll)
    obtain ⟨e, e', he, he', eQ, eg⟩ := known (.inl rfl) e1
    have dl := ded_len r.reverse
    rw [List.length_reverse] at dl
    have hQ : HtP 27 (ctrQ (mP r.reverse)) := by
      rw [show ctrQ (mP r.reverse) = mulT (mP (ded r.reverse).1) e from eQ]
      exact (mE_ht (fun s hs => hr s ((ded_mem _ s).1 hs)) he).mono (by omega)
    have hg : HtP 27 (gcdP (mP r.reverse) (derP (mP r.reverse))) := by
      rw [eg]
      exact (mE_ht (fun s hs => hr s ((ded_mem _ s).1 (ded_rest _ s hs))) he').mono (by omega)
    obtain ⟨q1, q2⟩ := gcdP_tr t1 (tr_trim (derC (mP r.reverse)))
    obtain ⟨q3, _⟩ := q2 (.inl t2)
    have lQ : (ctrQ (mP r.reverse)).length ≤ 6 := by
      have h1 := (divP_q t1 q1 q3 ht hg (by omega)).2
      have h2 := ne_len q3
      rw [show trimP (derC (mP r.reverse)) = derP (mP r.reverse) from rfl] at h1 h2
      show (divP (mP r.reverse) (gcdP (mP r.reverse) (derP (mP r.reverse)))).1.length ≤ 6
      omega
    have hB : (27 + 3) * 3 ^ (ctrQ (mP r.reverse)).length ≤ 120000 := by
      have := Nat.mul_le_mul_left (27 + 3) (Nat.pow_le_pow_right (show 0 < 3 by decide) lQ)
      omega
    have tt : trimP (mP r.reverse) = mP r.reverse := trim_of t1
    have hp : PolOk (mP r.reverse) := ⟨by omega, fun x hx => (ht.okL x hx).mono (by omega), fun _ => by rw [tt]; exact ⟨c1, c2⟩⟩
    have hd : Deep (cfn (mP r.reverse)) 2600000 := deep_of (by rw [tt]; exact t2) (by rw [tt]; exact hQ) (by rw [tt]; exact lQ) (by rw [tt]; exact hB)
    obtain ⟨l, hl, i2⟩ := isolate_ok hp (by rw [tt]; exact t2) (by decide) hd ox oy bx bY (Rat.not_lt.1 hxy)
    have is := law05_isolates hp (x, y) ⟨ox.mono (by decide), oy.mono (by decide)⟩ l hl
    clear hd hp tt hB lQ q1 q2 q3 hQ hg eQ eg c1 c2 c3 ht t1 t2 t3 t4 e1 hl
    generalize mP r.reverse = p at *
    clear ox oy bx bY ol hr dl
    refine ret_of_awp tab Tryz.func10 rfl rfl (Nat.le_of_ble_eq_true rfl) (fun w0 F0 => ?_)
    repeat' (first
      | (show awpL _ _ _ _ _; first | refine goL ?_ | refine cl 24 tt rfl rfl rfl (hr := nm) (k := ?_) | refine cl 25 tt rfl rfl rfl (hr := pr) (k := ?_) | refine cl 14 tt rfl rfl rfl (hr := n1) (k := ?_) | refine cl 14 tt rfl rfl rfl (hr := n2) (k := ?_) | refine cl 28 tt rfl rfl rfl (hr := ls) (k := ?_) | refine cl 49 tt rfl rfl rfl (hr := i2) (k := ?_) | refine cl 50 tt rfl rfl rfl (hr := is) (k := ?_) | refine cl 15 tt rfl rfl rfl (hr := aw) (k := ?_) | (refine gdLG ?_ ?_ <;> intro _ <;> try (exfalso; omega)))
      | (show awp _ _ _ _; first | refine goA ?_ | (refine cdG ?_ ?_ <;> intro _ <;> try (exfalso; omega)))
      | (show andThen _ _ _ _; refine goN ?_)
      | (show inBlock _ _ _ _; refine goB ?_)
      | (show retPost _ _ _ _ _; refine finG ?_))
    all_goals simp
end Go.Proofs.YtlphlodailailaaGreat
