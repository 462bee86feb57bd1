/-
  A statement of the seat: what its contract is, and the claim. Conditions: as each says.
-/
import Derived.Test.YtlphlodailailaaGreatY09
import Derived.Test.YtlphlodailailaaGreatY04
import Derived.Test.YtlphlodailailaaGreatA07
import Derived.Test.YtlphlodailailaaGreatA10
set_option linter.unusedVariables false
set_option linter.unusedSimpArgs false
set_option maxHeartbeats 8000000
namespace Go.Proofs.YtlphlodailailaaGreat
open Go.Vw
attribute [local irreducible] awp awpL awpR

theorem polynomial_Gcd (a b : List R3) (J : List Rat → List Rat → Prop) (ha : a.length ≤ 100) (hb : b.length ≤ 100) (ka : ∀ r ∈ a, RatOk r 10000000) (kb : ∀ r ∈ b, RatOk r 10000000) (hJ0 : J (trimP (a.map rv)) (trimP (b.map rv)))
    (hT : ∀ p q, J p q → Tr p ∧ Tr q ∧ p.length ≤ 1000 ∧ q.length ≤ 1000)
    (hS : ∀ p, (∃ q, J p q ∨ J q p) → p ≠ [] → Ret Tryz.prog 61 [qsD p, qD (p.getD ((p.length : Int) - 1).toNat 0)] (· = qsD (monicP p)))
    (hJ : ∀ p q, J p q → q ≠ [] → (∃ z, Ret Tryz.prog 32 [qsD p, qsD q] (· = .tup [qsD z, qsD (remP p q), .int .i64 0])) ∧ J (monicP q) (remP p q)) : Ret Tryz.prog 17 [rsD a, rsD b] (· = qsD (gcdP (trimP (a.map rv)) (trimP (b.map rv)))) := by
  have ta := polynomial_Trim a (by omega) ka
  have tb := polynomial_Trim b (by omega) kb
  generalize trimP (a.map rv) = p0 at *
  generalize trimP (b.map rv) = q0 at *
  obtain ⟨G, hG⟩ : ∃ G, gcdP p0 q0 = G := ⟨_, rfl⟩
  rw [hG]
  clear ka kb
  refine ret_of_awp tab Tryz.func17 rfl rfl (Nat.le_of_ble_eq_true rfl) (fun w0 F0 => ?_)
  repeat' (first
    | (show awpL _ _ _ _ _; first | refine goL ?_ | refine cl 60 tt rfl rfl rfl (hr := ta) (k := ?_) | refine cl 60 tt rfl rfl rfl (hr := tb) (k := ?_) | (refine gdLG ?_ ?_ <;> intro _ <;> try (exfalso; omega)))
    | (show awp _ _ _ _; first | refine goA ?_ | (refine cdG ?_ ?_ <;> intro _ <;> try (exfalso; omega)))
    | (show andThen _ _ _ _; refine goN ?_)
    | (show inBlock _ _ _ _; refine goB ?_)
    | (show retPost _ _ _ _ _; refine finG ?_))
  refine awp_loop1 (fun (x : List Rat × List Rat) => ([(0, .d (qsD x.1)), (1, .d (qsD x.2))], [])) (fun x => J x.1 x.2 ∧ gcdP x.1 x.2 = G) (fun x => x.2.length) (p0, q0) ⟨hJ0, hG⟩ ⟨rfl, rfl, rfl⟩ trivial (fun x hx => ?_)
  obtain ⟨p, q⟩ := x
  obtain ⟨i1, i2⟩ := hx
  dsimp only at i1 i2 ⊢
  obtain ⟨t1, t2, t3, t4⟩ := hT p q i1
  by_cases hq : q = []
  · subst hq
    rw [gcdP_nil] at i2
    have h0 : ([] : List Rat).length = 0 := rfl
    by_cases hp : p = []
    · subst hp
      rw [← i2, monic_nil]
      clear hJ0 hT hS hJ ta tb
      repeat' (first
        | (show awpL _ _ _ _ _; first | refine goL ?_ | (refine gdLG ?_ ?_ <;> intro _ <;> try (exfalso; omega)))
        | (show awp _ _ _ _; first | refine goA ?_ | (refine cdG ?_ ?_ <;> intro _ <;> try (exfalso; omega)))
        | (show andThen _ _ _ _; refine goN ?_)
        | (show inBlock _ _ _ _; refine goB ?_)
        | (show retPost _ _ _ _ _; first | refine finF true rfl rfl sc ?_ | refine finF false rfl rfl sc ?_ | refine finC false rfl rfl sc sc ?_ | refine finN rfl rfl sc ?_ | refine finL true rfl rfl sc rfl (LeR.cons rfl leL LeR.nil) ?_ | refine finA true rfl rfl sc ?_ | refine finA false rfl rfl sc ?_ | refine finE true rfl rfl sc ?_ | refine finE false rfl rfl sc ?_))
      all_goals rfl
    · have s1 := hS p ⟨_, .inl i1⟩ hp
      have h1 := ne_len hp
      rw [i2] at s1
      clear hJ0 hT hS hJ ta tb
      repeat' (first
        | (show awpL _ _ _ _ _; first | refine goL ?_ | refine cl 61 tt rfl rfl rfl (hr := s1) (k := ?_) | (refine gdLG ?_ ?_ <;> intro _ <;> try (exfalso; omega)))
        | (show awp _ _ _ _; first | refine goA ?_ | (refine cdG ?_ ?_ <;> intro _ <;> try (exfalso; omega)))
        | (show andThen _ _ _ _; refine goN ?_)
        | (show inBlock _ _ _ _; refine goB ?_)
        | (show retPost _ _ _ _ _; refine finG ?_))
      rfl
  · have s1 := hS q ⟨_, .inr i1⟩ hq
    obtain ⟨⟨z, d1⟩, d2⟩ := hJ p q i1 hq
    have h1 := ne_len hq
    have st := gcdP_step t1 t2 hq (a := 1 / lead q) (b := 1) (by
      intro h
      have := lead_ne t2 hq
      have h2 : lead q * (1 / lead q) = 1 := by rw [Rat.div_def, Rat.one_mul]; exact Rat.mul_inv_cancel _ this
      rw [h, Rat.mul_zero] at h2
      exact absurd h2 (by decide)) (by decide)
    rw [smul_one, i2] at st
    have rl := rem_len t1 t2 hq
    have e : smul (1 / lead q) q = monicP q := rfl
    rw [e] at st
    generalize remP p q = r at *
    generalize monicP q = m at *
    clear hJ0 hT hS hJ ta tb e
    repeat' (first
      | (show awpL _ _ _ _ _; first | refine goL ?_ | refine cl 32 tt rfl rfl rfl (hr := d1) (k := ?_) | refine cl 61 tt rfl rfl rfl (hr := s1) (k := ?_) | (refine gdLG ?_ ?_ <;> intro _ <;> try (exfalso; omega)))
      | (show awp _ _ _ _; first | refine goA ?_ | (refine cdG ?_ ?_ <;> intro _ <;> try (exfalso; omega)))
      | (show andThen _ _ _ _; refine goN ?_)
      | (show inBlock _ _ _ _; refine goB ?_)
      | (show retPost _ _ _ _ _; refine finG ?_))
    exact ⟨(m, r), ⟨d2, st.symm⟩, rl, ⟨rfl, rfl, rfl⟩, trivial⟩
theorem chain_id (p : List Rat) (hp : p.length ≤ 10000000) : Ret Tryz.prog 65 [qsD p] (· = qsD (id p)) := by
  show Ret _ _ _ (· = qsD p)
  refine ret_of_awp tab Tryz.func65 rfl rfl (Nat.le_of_ble_eq_true rfl) (fun w0 F0 => ?_)
  repeat' (first
    | (show awpL _ _ _ _ _; first | refine goL ?_ | (refine gdLG ?_ ?_ <;> intro _ <;> try (exfalso; omega)))
    | (show awp _ _ _ _; first | refine goA ?_ | (refine cdG ?_ ?_ <;> intro _ <;> try (exfalso; omega)))
    | (show andThen _ _ _ _; refine goN ?_)
    | (show inBlock _ _ _ _; refine goB ?_)
    | (show retPost _ _ _ _ _; refine finG ?_))
  rfl
theorem polynomial_Chain (P : List R3) (F : List (List Rat)) (h : Ret Tryz.prog 64 [rsD P, .fn 65 []] (· = qssD F)) : Ret Tryz.prog 20 [rsD P] (· = qssD F) := by
  refine ret_of_awp tab Tryz.func20 rfl rfl (Nat.le_of_ble_eq_true rfl) (fun w0 F0 => ?_)
  repeat' (first
    | (show awpL _ _ _ _ _; first | refine goL ?_ | refine cl 64 tt rfl rfl rfl (hr := h) (k := ?_) | (refine gdLG ?_ ?_ <;> intro _ <;> try (exfalso; omega)))
    | (show awp _ _ _ _; first | refine goA ?_ | (refine cdG ?_ ?_ <;> intro _ <;> try (exfalso; omega)))
    | (show andThen _ _ _ _; refine goN ?_)
    | (show inBlock _ _ _ _; refine goB ?_)
    | (show retPost _ _ _ _ _; refine finG ?_))
  rfl
theorem rational_AbsB (x : Rat) (h : okQ 10000000 x) : Ret Tryz.prog 143 [qD x] (· = qD (absQ x)) := by
  have sg := rational_SignQ x (h.mono (by decide))
  have n1 := rational_Neg (rq x) (ok_rq (h.mono (by decide)))
  rw [rv_rq] at n1
  have n2 := rational_Neg (rq (-x)) (ok_rq (h.neg.mono (by decide)))
  rw [rv_rq, Rat.neg_neg] at n2
  have hs : x.num.sign < 0 ↔ x < 0 := by rw [← num_lt0, ← Int.not_le, ← Int.not_le, Int.sign_nonneg_iff]
  generalize x.num.sign = s at *
  unfold absQ
  by_cases c : x < 0
  · have hn := hs.2 c
    rw [if_pos c]
    clear hs
    refine ret_of_awp tab Tryz.func143 rfl rfl (Nat.le_of_ble_eq_true rfl) (fun w0 F0 => ?_)
    repeat' (first
      | (show awpL _ _ _ _ _; first | refine goL ?_ | refine cl 99 tt rfl rfl rfl (hr := sg) (k := ?_) | refine cl 121 tt rfl rfl rfl (hr := n1) (k := ?_) | (refine gdLG ?_ ?_ <;> intro _ <;> try (exfalso; omega)))
      | (show awp _ _ _ _; first | refine goA ?_ | (refine cdG ?_ ?_ <;> intro _ <;> try (exfalso; omega)))
      | (show andThen _ _ _ _; refine goN ?_)
      | (show inBlock _ _ _ _; refine goB ?_)
      | (show retPost _ _ _ _ _; refine finG ?_))
    rfl
  · have hn := mt hs.1 c
    rw [if_neg c]
    clear hs
    refine ret_of_awp tab Tryz.func143 rfl rfl (Nat.le_of_ble_eq_true rfl) (fun w0 F0 => ?_)
    repeat' (first
      | (show awpL _ _ _ _ _; first | refine goL ?_ | refine cl 99 tt rfl rfl rfl (hr := sg) (k := ?_) | refine cl 121 tt rfl rfl rfl (hr := n1) (k := ?_) | refine cl 121 tt rfl rfl rfl (hr := n2) (k := ?_) | (refine gdLG ?_ ?_ <;> intro _ <;> try (exfalso; omega)))
      | (show awp _ _ _ _; first | refine goA ?_ | (refine cdG ?_ ?_ <;> intro _ <;> try (exfalso; omega)))
      | (show andThen _ _ _ _; refine goN ?_)
      | (show inBlock _ _ _ _; refine goB ?_)
      | (show retPost _ _ _ _ _; refine finG ?_))
    rfl
theorem polynomial_small (p : List Rat) (hp : p.length ≤ 500) (kp : ∀ x ∈ p, okQ 5000000 x) (hT : Tr p) : Ret Tryz.prog 109 [qsD p] (· = qsD (smul (1 / absQ (lead p)) p)) := by
  by_cases h0 : p = []
  · subst h0
    show Ret _ _ _ (· = qsD [])
    refine ret_of_awp tab Tryz.func109 rfl rfl (Nat.le_of_ble_eq_true rfl) (fun w0 F0 => ?_)
    repeat' (first
      | (show awpL _ _ _ _ _; first | refine goL ?_ | (refine gdLG ?_ ?_ <;> intro _ <;> try (exfalso; omega)))
      | (show awp _ _ _ _; first | refine goA ?_ | (refine cdG ?_ ?_ <;> intro _ <;> try (exfalso; omega)))
      | (show andThen _ _ _ _; refine goN ?_)
      | (show inBlock _ _ _ _; refine goB ?_)
      | (show retPost _ _ _ _ _; first | refine finF true rfl rfl sc ?_ | refine finF false rfl rfl sc ?_ | refine finC false rfl rfl sc sc ?_ | refine finN rfl rfl sc ?_ | refine finL true rfl rfl sc rfl (LeR.cons rfl leL LeR.nil) ?_ | refine finA true rfl rfl sc ?_ | refine finA false rfl rfl sc ?_ | refine finE true rfl rfl sc ?_ | refine finE false rfl rfl sc ?_))
    all_goals rfl
  · have h1 := ne_len h0
    have e1 : ((p.length : Int) - 1).toNat = p.length - 1 := by omega
    have a1 := rational_AbsB (lead p) ((ok_cf kp (by decide) _).mono (by decide))
    have hab : absQ (lead p) ≠ 0 := by
      have := lead_ne hT h0
      unfold absQ
      split
      · intro h; apply this; grind
      · exact this
    have ka : okQ 5000000 (absQ (lead p)) := by
      have := ok_cf kp (by decide) (p.length - 1)
      unfold absQ
      split
      · exact okQ.neg this
      · exact this
    have s1 := polynomial_scaledQ p (absQ (lead p)) hp kp ka hab
    have a2 : Ret Tryz.prog 143 [qD (p.getD ((p.length : Int) - 1).toNat 0)] (· = qD (absQ (lead p))) := by rw [e1]; exact a1
    generalize smul (1 / absQ (lead p)) p = R at *
    generalize absQ (lead p) = y at *
    clear a1 kp
    refine ret_of_awp tab Tryz.func109 rfl rfl (Nat.le_of_ble_eq_true rfl) (fun w0 F0 => ?_)
    repeat' (first
      | (show awpL _ _ _ _ _; first | refine goL ?_ | refine cl 143 tt rfl rfl rfl (hr := a2) (k := ?_) | refine cl 61 tt rfl rfl rfl (hr := s1) (k := ?_) | (refine gdLG ?_ ?_ <;> intro _ <;> try (exfalso; omega)))
      | (show awp _ _ _ _; first | refine goA ?_ | (refine cdG ?_ ?_ <;> intro _ <;> try (exfalso; omega)))
      | (show andThen _ _ _ _; refine goN ?_)
      | (show inBlock _ _ _ _; refine goB ?_)
      | (show retPost _ _ _ _ _; refine finG ?_))
    rfl
theorem counter_changes (F : List (List Rat)) (x : R3) (hF : F.length ≤ 1000) (he : ∀ i, i < F.length → Ret Tryz.prog 36 [qsD (F.getD i []), rD x] (· = qD (evalP (F.getD i []) (rv x))) ∧ okQ 10000000 (evalP (F.getD i []) (rv x))) : Ret Tryz.prog 110 [qssD F, rD x] (· = .int .i64 (chg 0 (F.map fun f => sgQ (evalP f (rv x))))) := by
  obtain ⟨S, hS⟩ : ∃ S, (F.map fun f => sgQ (evalP f (rv x))) = S := ⟨_, rfl⟩
  have hSl : S.length = F.length := by rw [← hS, List.length_map]
  have hSi : ∀ i, i < F.length → S.drop i = sgQ (evalP (F.getD i []) (rv x)) :: S.drop (i + 1) := fun i hi => by
    rw [List.drop_eq_getElem_cons (by omega)]
    congr 1
    subst hS
    simp [List.getD_eq_getElem?_getD, hi]
  rw [hS]
  clear hS
  obtain ⟨R, hR⟩ : ∃ R, chg 0 S = R := ⟨_, rfl⟩
  rw [hR]
  refine ret_of_awp tab Tryz.func110 rfl rfl (Nat.le_of_ble_eq_true rfl) (fun w0 F0 => ?_)
  repeat' (first
    | (show awpL _ _ _ _ _; first | refine goL ?_ | (refine gdLG ?_ ?_ <;> intro _ <;> try (exfalso; omega)))
    | (show awp _ _ _ _; first | refine goA ?_ | (refine cdG ?_ ?_ <;> intro _ <;> try (exfalso; omega)))
    | (show andThen _ _ _ _; refine goN ?_)
    | (show inBlock _ _ _ _; refine goB ?_)
    | (show retPost _ _ _ _ _; refine finG ?_))
  refine awp_loop1 (fun (y : Int × Int × Nat) => ([(3, .ptr 3 0), (5, .d (.int .i64 y.1)), (6, .d (.int .i64 y.2.1)), (10, .d (qssD F)), (11, .d (.int .i64 F.length)), (12, .d (.int .i64 y.2.2))], [(3, .box 29 ((rC x).map V.d))])) (fun y => 0 ≤ y.1 ∧ y.1 ≤ y.2.2 ∧ -1 ≤ y.2.1 ∧ y.2.1 ≤ 1 ∧ y.2.2 ≤ F.length ∧ y.1 + chg y.2.1 (S.drop y.2.2) = R) (fun y => F.length - y.2.2) (0, 0, 0) ⟨by decide, by decide, by decide, by decide, Nat.zero_le _, by show 0 + chg 0 (S.drop 0) = R; rw [List.drop_zero, hR]; omega⟩ ⟨rfl, rfl, rfl, rfl, rfl, rfl, rfl⟩ ⟨rfl, trivial⟩ (fun y hy => ?_)
  obtain ⟨n, last, i⟩ := y
  obtain ⟨i1, i2, i3, i4, i5, i6⟩ := hy
  dsimp only at i1 i2 i3 i4 i5 i6 ⊢
  by_cases h3 : i < F.length
  · obtain ⟨e1, e2⟩ := he i h3
    have e3 := rational_SignQ _ e2
    rw [hSi i h3, chg] at i6
    have b1 : -1 ≤ sgQ (evalP (F.getD i []) (rv x)) ∧ sgQ (evalP (F.getD i []) (rv x)) ≤ 1 := by
      unfold sgQ
      rcases Int.lt_trichotomy (evalP (F.getD i []) (rv x)).num 0 with h | h | h
      · rw [Int.sign_eq_neg_one_of_neg h]; decide
      · rw [h]; decide
      · rw [Int.sign_eq_one_of_pos h]; decide
    have e4 : Ret Tryz.prog 99 [qD (evalP (F.getD i []) (rv x))] (· = .int .i64 (sgQ (evalP (F.getD i []) (rv x)))) := e3
    clear e3 e2 he hSi
    generalize sgQ (evalP (F.getD i []) (rv x)) = s at *
    generalize evalP (F.getD i []) (rv x) = v at *
    obtain ⟨b1, b2⟩ := b1
    by_cases c0 : s = 0
    · rw [if_neg (by omega), if_neg (by omega)] at i6
      repeat' (first
        | (show awpL _ _ _ _ _; first | refine goL ?_ | refine cl 36 tt rfl rfl rfl (hr := e1) (k := ?_) | refine cl 99 tt rfl rfl rfl (hr := e4) (k := ?_) | (refine gdLG ?_ ?_ <;> intro _ <;> try (exfalso; omega)))
        | (show awp _ _ _ _; first | refine goA ?_ | (refine cdG ?_ ?_ <;> intro _ <;> try (exfalso; omega)))
        | (show andThen _ _ _ _; refine goN ?_)
        | (show inBlock _ _ _ _; refine goB ?_)
        | (show retPost _ _ _ _ _; refine finG ?_))
      all_goals exact ⟨(n, last, i + 1), ⟨i1, by show n ≤ ((i + 1 : Nat) : Int); omega, i3, i4, h3, by rw [← i6]; show n + chg last (S.drop (i + 1)) = _; omega⟩, by show F.length - (i + 1) < F.length - i; omega, ⟨rfl, rfl, rfl, rfl, rfl, rfl, rfl⟩, rfl, trivial⟩
    · rw [if_pos (show s ≠ 0 from c0)] at i6
      by_cases c1 : last ≠ 0 ∧ s ≠ last
      · rw [if_pos ⟨c0, c1.1, c1.2⟩] at i6
        obtain ⟨c1, c2⟩ := c1
        repeat' (first
          | (show awpL _ _ _ _ _; first | refine goL ?_ | refine cl 36 tt rfl rfl rfl (hr := e1) (k := ?_) | refine cl 99 tt rfl rfl rfl (hr := e4) (k := ?_) | (refine gdLG ?_ ?_ <;> intro _ <;> try (exfalso; omega)))
          | (show awp _ _ _ _; first | refine goA ?_ | (refine cdG ?_ ?_ <;> intro _ <;> try (exfalso; omega)))
          | (show andThen _ _ _ _; refine goN ?_)
          | (show inBlock _ _ _ _; refine goB ?_)
          | (show retPost _ _ _ _ _; refine finG ?_))
        all_goals exact ⟨(n + 1, s, i + 1), ⟨by show 0 ≤ n + 1; omega, by show n + 1 ≤ ((i + 1 : Nat) : Int); omega, b1, b2, h3, by rw [← i6]; show n + 1 + chg s (S.drop (i + 1)) = _; omega⟩, by show F.length - (i + 1) < F.length - i; omega, ⟨rfl, rfl, rfl, rfl, rfl, rfl, rfl⟩, rfl, trivial⟩
      · rw [if_neg (fun h => c1 ⟨h.2.1, h.2.2⟩)] at i6
        repeat' (first
          | (show awpL _ _ _ _ _; first | refine goL ?_ | refine cl 36 tt rfl rfl rfl (hr := e1) (k := ?_) | refine cl 99 tt rfl rfl rfl (hr := e4) (k := ?_) | (refine gdLG ?_ ?_ <;> intro _ <;> try (exfalso; omega)))
          | (show awp _ _ _ _; first | refine goA ?_ | (refine cdG ?_ ?_ <;> intro _ <;> try (exfalso; omega)))
          | (show andThen _ _ _ _; refine goN ?_)
          | (show inBlock _ _ _ _; refine goB ?_)
          | (show retPost _ _ _ _ _; refine finG ?_))
        all_goals exact ⟨(n, s, i + 1), ⟨i1, by show n ≤ ((i + 1 : Nat) : Int); omega, b1, b2, h3, by rw [← i6]; show n + chg s (S.drop (i + 1)) = _; omega⟩, by show F.length - (i + 1) < F.length - i; omega, ⟨rfl, rfl, rfl, rfl, rfl, rfl, rfl⟩, rfl, trivial⟩
  · have e : i = F.length := by omega
    rw [e, List.drop_of_length_le (by omega), chg] at i6
    clear he hSi
    repeat' (first
      | (show awpL _ _ _ _ _; first | refine goL ?_ | (refine gdLG ?_ ?_ <;> intro _ <;> try (exfalso; omega)))
      | (show awp _ _ _ _; first | refine goA ?_ | (refine cdG ?_ ?_ <;> intro _ <;> try (exfalso; omega)))
      | (show andThen _ _ _ _; refine goN ?_)
      | (show inBlock _ _ _ _; refine goB ?_)
      | (show retPost _ _ _ _ _; refine finG ?_))
    rw [← i6, Int.add_zero]
end Go.Proofs.YtlphlodailailaaGreat
