/-
  The laws on the place of an error and on brackets. Conditions: none.
-/
import Derived.Test.YtfnonogemgnlhaaDoorA08
import Derived.Test.YtfnonogemgnlhaaDoorA05
set_option linter.unusedVariables false
set_option linter.unusedSimpArgs false
set_option maxHeartbeats 8000000
namespace Go.Proofs.YtfnonogemgnlhaaDoor
open Go.Vw
attribute [local irreducible] awp awpL awpR

theorem law09_inner (c : UInt8) : Ret Tryd.prog 19 [bD c] (· = .bool (isInn c)) := by
  rw [isInn_nat, isLet_nat, isDig_nat]
  refine ret_of_awp tab Tryd.func19 rfl rfl (Nat.le_of_ble_eq_true rfl) (fun w0 F0 => ?_)
  repeat' (first | refine wG ?_ | refine wR ?_ | refine wS ?_ ?_ <;> intro _ | refine finG ?_)
  all_goals first | rfl | (refine congrArg D.bool ?_; rw [Bool.eq_iff_iff]; simp; omega) | (refine congrArg D.bool ?_; simp)
theorem fm0_cut {t : List UInt8} {x : PErr} (h : Fm0 t (.error x)) (hc : CutAt t x.1) : ∃ o, Fm0 (t.take x.1) o ∧ (o = .error (x.1, 3) ∨ ∃ p, o = .ok p) := by
  have h0 : At t (skp t 0) := ⟨runE_le _ (Nat.zero_le _), runE_idem (Nat.zero_le _)⟩
  have e0 := cut_skp0 hc
  have hs0 := skp_cut hc (Nat.zero_le x.1)
  have he := cut_end hc
  obtain ⟨n1, n2⟩ := name_cut hc (i := skp t 0)
  rw [← e0] at n1 n2
  cases h with
  | name h =>
    have e1 := (nameP_er h).1
    subst e1
    exact ⟨_, .name (n2 e0), .inl rfl⟩
  | @tilde s i _ h h1 =>
    have e1 := (mustP_er h1).1
    subst e1
    have a := nameP_ok h
    rw [e0] at n1
    have n := n1 s i h (by show skp t 0 < i; omega)
    rw [← e0] at n
    exact ⟨_, .tilde n ((must_cut hc (Nat.le_refl _)).2 rfl), .inl rfl⟩
  | @right s i j _ h h1 h2 =>
    have a := nameP_ok h
    have b := mustP_ok h1
    have g : ErrIn t j x := h2.goes b.1
    have g1 := g.1
    rw [e0] at n1
    have n := n1 s i h (by omega)
    rw [← e0] at n
    have m := (must_cut hc (d := 126) (i := i) (by omega)).1 j h1 (by omega) (by omega)
    have r := h2.cut hc (Nat.zero_le 3) b.1 g1
    obtain ⟨o', r1, r2⟩ := r rfl
    rcases r2 with rfl | ⟨e, rfl⟩
    · exact ⟨_, .right n m r1, .inl rfl⟩
    · exact ⟨_, .done n m r1 he, .inr ⟨_, rfl⟩⟩
  | @rest s i j e k h h1 h2 h3 =>
    have a := nameP_ok h
    have b := mustP_ok h1
    have g : Goes t _ j (.ok (e, k)) := h2.goes b.1
    have g1 := g.2.1
    rw [e0] at n1
    have n := n1 s i h (by show skp t 0 < k; omega)
    rw [← e0] at n
    have m := (must_cut hc (d := 126) (i := i) (by show i ≤ k; omega)).1 j h1 (by show j ≤ k; omega) (by show i < k; omega)
    have r := h2.cut hc (Nat.zero_le 3) b.1 g1
    exact ⟨_, .done n m (r (Nat.le_refl _)) he, .inr ⟨_, rfl⟩⟩
theorem law09_StopsAt (t : List UInt8) (hl : t.length ≤ maxLen) : Ret Tryd.prog 8 [.str t] (· = .bool true) := by
  have aw := law09_awake
  by_cases h6 : t.length ≤ 600
  · obtain ⟨o, h⟩ := fm0_ex t
    have p := parse_of h (by omega)
    have q := ref_of h (by omega)
    cases o with
    | error x =>
      have p : Ret Tryd.prog 11 [.str t] (· = .tup [.agg [.str [], .nils], .int .i64 x.1, .int .i64 x.2]) := p
      have q : Ret Tryd.prog 12 [.str t] (· = .tup [.agg [.str [], .nils], .int .i64 x.1, .int .i64 x.2]) := q
      have er := h.err
      have er2 : x.2 = 3 ∨ x.2 = 1 := er.2.2.2
      have er1 := er.2.1
      by_cases hx : x.1 ≥ t.length
      · clear h er
        refine ret_of_awp tab Tryd.func8 rfl rfl (Nat.le_of_ble_eq_true rfl) (fun w0 F0 => ?_)
        repeat' (first | refine wG ?_ | refine wC aw ?_ | refine wC p ?_ | refine wC q ?_ | refine wR ?_ | refine wS ?_ ?_ <;> intro _ | refine finG ?_)
        all_goals rfl
      · by_cases hz : x.1 > 0 ∧ isInn (t.getD (x.1 - 1) 0) = true
        · have hz1 := hz.1
          have ic := (law09_inner (t.getD ((x.1 : Int) - 1).toNat 0)).to (r' := .bool true) (by rw [show ((x.1 : Int) - 1).toNat = x.1 - 1 by omega, hz.2])
          clear h er
          refine ret_of_awp tab Tryd.func8 rfl rfl (Nat.le_of_ble_eq_true rfl) (fun w0 F0 => ?_)
          repeat' (first | refine wG ?_ | refine wC aw ?_ | refine wC p ?_ | refine wC q ?_ | refine wC ic ?_ | refine wR ?_ | refine wS ?_ ?_ <;> intro _ | refine finG ?_)
          all_goals rfl
        · have hc : CutAt t x.1 := ⟨⟨er.2.1, er.2.2.1⟩, by
            rcases Nat.eq_zero_or_pos x.1 with q | q
            · exact .inl q
            · refine .inr ?_
              cases hh : isInn (t.getD (x.1 - 1) 0) with
              | false => rfl
              | true => exact absurd ⟨q, hh⟩ hz⟩
          obtain ⟨o2, h2, h3⟩ := fm0_cut h hc
          have p2 := parse_of h2 (by simp; omega)
          have fin : ∀ (d : D) (a g : Int), (g = 0 ∨ g = 2 ∨ (g = 3 ∧ a = x.1)) → (d = .agg [.str [], .nils] ∨ ∃ s e, d = fmD s e) → Ret Tryd.prog 11 [.str (t.take x.1)] (· = .tup [d, .int .i64 a, .int .i64 g]) → Ret Tryd.prog 8 [.str t] (· = .bool true) := fun d a g hg hd p2 => by
            rcases Nat.eq_zero_or_pos x.1 with q0 | q0
            · clear h er hc h2 h3
              rcases hd with rfl | ⟨s, e, rfl⟩
              · refine ret_of_awp tab Tryd.func8 rfl rfl (Nat.le_of_ble_eq_true rfl) (fun w0 F0 => ?_)
                repeat' (first | refine wG ?_ | refine wC aw ?_ | refine wC p ?_ | refine wC q ?_ | refine wC p2 ?_ | refine wR ?_ | refine wS ?_ ?_ <;> intro _ | refine finG ?_)
                all_goals first | rfl | (refine congrArg D.bool ?_; simp; omega) | (exfalso; omega)
              · refine ret_of_awp tab Tryd.func8 rfl rfl (Nat.le_of_ble_eq_true rfl) (fun w0 F0 => ?_)
                repeat' (first | refine wG ?_ | refine wC aw ?_ | refine wC p ?_ | refine wC q ?_ | refine wC p2 ?_ | refine wR ?_ | refine wS ?_ ?_ <;> intro _ | refine finG ?_)
                all_goals first | rfl | (refine congrArg D.bool ?_; simp; omega) | (exfalso; omega)
            · have hin : isInn (t.getD (x.1 - 1) 0) = false := hc.cl.resolve_left (by omega)
              have ic := (law09_inner (t.getD ((x.1 : Int) - 1).toNat 0)).to (r' := .bool false) (by rw [show ((x.1 : Int) - 1).toNat = x.1 - 1 by omega, hin])
              clear h er hc h2 h3
              rcases hd with rfl | ⟨s, e, rfl⟩
              · refine ret_of_awp tab Tryd.func8 rfl rfl (Nat.le_of_ble_eq_true rfl) (fun w0 F0 => ?_)
                repeat' (first | refine wG ?_ | refine wC aw ?_ | refine wC p ?_ | refine wC q ?_ | refine wC ic ?_ | refine wC p2 ?_ | refine wR ?_ | refine wS ?_ ?_ <;> intro _ | refine finG ?_)
                all_goals first | rfl | (refine congrArg D.bool ?_; simp; omega) | (exfalso; omega)
              · refine ret_of_awp tab Tryd.func8 rfl rfl (Nat.le_of_ble_eq_true rfl) (fun w0 F0 => ?_)
                repeat' (first | refine wG ?_ | refine wC aw ?_ | refine wC p ?_ | refine wC q ?_ | refine wC ic ?_ | refine wC p2 ?_ | refine wR ?_ | refine wS ?_ ?_ <;> intro _ | refine finG ?_)
                all_goals first | rfl | (refine congrArg D.bool ?_; simp; omega) | (exfalso; omega)
          rcases h3 with rfl | ⟨⟨s, e⟩, rfl⟩
          · exact fin _ x.1 3 (.inr (.inr ⟨rfl, rfl⟩)) (.inl rfl) p2
          · unfold prsO at p2
            simp only at p2
            by_cases h64 : 64 < e.length
            · rw [if_pos h64] at p2
              exact fin _ 0 2 (.inr (.inl rfl)) (.inl rfl) p2
            · rw [if_neg h64] at p2
              exact fin _ 0 0 (.inl rfl) (.inr ⟨_, _, rfl⟩) p2
    | ok y =>
      obtain ⟨s, e⟩ := y
      unfold prsO at p q
      simp only at p q
      by_cases h64 : 64 < e.length
      · rw [if_pos h64] at p q
        have p : Ret Tryd.prog 11 [.str t] (· = .tup [.agg [.str [], .nils], .int .i64 0, .int .i64 2]) := p
        have q : Ret Tryd.prog 12 [.str t] (· = .tup [.agg [.str [], .nils], .int .i64 0, .int .i64 2]) := q
        clear h
        refine ret_of_awp tab Tryd.func8 rfl rfl (Nat.le_of_ble_eq_true rfl) (fun w0 F0 => ?_)
        repeat' (first | refine wG ?_ | refine wC aw ?_ | refine wC p ?_ | refine wC q ?_ | refine wR ?_ | refine wS ?_ ?_ <;> intro _ | refine finG ?_)
        all_goals rfl
      · rw [if_neg h64] at p q
        have p : Ret Tryd.prog 11 [.str t] (· = .tup [fmD s e, .int .i64 0, .int .i64 0]) := p
        have q : Ret Tryd.prog 12 [.str t] (· = .tup [fmD s e, .int .i64 0, .int .i64 0]) := q
        clear h
        refine ret_of_awp tab Tryd.func8 rfl rfl (Nat.le_of_ble_eq_true rfl) (fun w0 F0 => ?_)
        repeat' (first | refine wG ?_ | refine wC aw ?_ | refine wC p ?_ | refine wC q ?_ | refine wR ?_ | refine wS ?_ ?_ <;> intro _ | refine finG ?_)
        all_goals rfl
  · refine ret_of_awp tab Tryd.func8 rfl rfl (Nat.le_of_ble_eq_true rfl) (fun w0 F0 => ?_)
    repeat' (first | refine wG ?_ | refine wC aw ?_ | refine wR ?_ | refine wS ?_ ?_ <;> intro _ | refine finG ?_)
    all_goals rfl
end Go.Proofs.YtfnonogemgnlhaaDoor
