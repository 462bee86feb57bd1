/-
  A statement of the seat: what its contract is, and the claim. Conditions: as each says.
-/
import Derived.Test.YtlphlodailailaaGreatY21
import Derived.Test.YtlphlodailailaaGreatA10
set_option linter.unusedVariables false
set_option linter.unusedSimpArgs false
set_option maxHeartbeats 8000000
namespace Go.Proofs.YtlphlodailailaaGreat
open Go.Vw
attribute [local irreducible] awp awpL awpR

theorem ref03_AbsB (x : Rat) (h : okQ 10000000 x) : Ret Tryz.prog 144 [qD x] (· = qD (absQ x)) := by
  have sg := ref03_SignQ x (h.mono (by decide))
  have n1 := ref03_Neg (rq x) (ok_rq (h.mono (by decide)))
  rw [rv_rq] at n1
  have n2 := ref03_TakeQ x (h.mono (by decide))
  have hs : x.num.sign < 0 ↔ x < 0 := by rw [← num_lt0, ← Int.not_le, ← Int.not_le, Int.sign_nonneg_iff]
  generalize x.num.sign = s at *
  unfold absQ
  by_cases c : x < 0
  · have hn := hs.2 c
    rw [if_pos c]
    clear hs
    refine ret_of_awp tab Tryz.func144 rfl rfl (Nat.le_of_ble_eq_true rfl) (fun w0 F0 => ?_)
    repeat' (first
      | (show awpL _ _ _ _ _; first | refine goL ?_ | refine cl 91 tt rfl rfl rfl (hr := sg) (k := ?_) | refine cl 73 tt rfl rfl rfl (hr := n1) (k := ?_) | (refine gdLG ?_ ?_ <;> intro _ <;> try (exfalso; omega)))
      | (show awp _ _ _ _; first | refine goA ?_ | (refine cdG ?_ ?_ <;> intro _ <;> try (exfalso; omega)))
      | (show andThen _ _ _ _; refine goN ?_)
      | (show inBlock _ _ _ _; refine goB ?_)
      | (show retPost _ _ _ _ _; refine finG ?_))
    rfl
  · have hn := mt hs.1 c
    rw [if_neg c]
    clear hs
    refine ret_of_awp tab Tryz.func144 rfl rfl (Nat.le_of_ble_eq_true rfl) (fun w0 F0 => ?_)
    repeat' (first
      | (show awpL _ _ _ _ _; first | refine goL ?_ | refine cl 91 tt rfl rfl rfl (hr := sg) (k := ?_) | refine cl 85 tt rfl rfl rfl (hr := n2) (k := ?_) | (refine gdLG ?_ ?_ <;> intro _ <;> try (exfalso; omega)))
      | (show awp _ _ _ _; first | refine goA ?_ | (refine cdG ?_ ?_ <;> intro _ <;> try (exfalso; omega)))
      | (show andThen _ _ _ _; refine goN ?_)
      | (show inBlock _ _ _ _; refine goB ?_)
      | (show retPost _ _ _ _ _; refine finG ?_))
    rfl
theorem ref05_one (p : List Rat) (hp : p.length ≤ 400) (kp : ∀ x ∈ p, okQ 2000000 x) (hT : Tr p) : Ret Tryz.prog 111 [qsD p] (· = qsD (smallP p)) := by
  by_cases h0 : p = []
  · subst h0
    show Ret _ _ _ (· = qsD [])
    refine ret_of_awp tab Tryz.func111 rfl rfl (Nat.le_of_ble_eq_true rfl) (fun w0 F0 => ?_)
    repeat' (first
      | (show awpL _ _ _ _ _; first | refine goL ?_ | (refine gdLG ?_ ?_ <;> intro _ <;> try (exfalso; omega)))
      | (show awp _ _ _ _; first | refine goA ?_ | refine rg 3 10 ?_ | (refine cdG ?_ ?_ <;> intro _ <;> try (exfalso; omega)))
      | (show andThen _ _ _ _; refine goN ?_)
      | (show inBlock _ _ _ _; refine goB ?_)
      | (show awpR _ _ _ _ _ _ _; first | refine goR ?_ | (refine gdRG ?_ ?_ <;> intro _ <;> try (exfalso; omega)))
      | (show retPost _ _ _ _ _; first | refine finF true rfl rfl sc ?_ | refine finF false rfl rfl sc ?_ | refine finC false rfl rfl sc sc ?_ | refine finN rfl rfl sc ?_ | refine finL true rfl rfl sc rfl (LeR.cons rfl leL LeR.nil) ?_ | refine finA true rfl rfl sc ?_ | refine finA false rfl rfl sc ?_ | refine finE true rfl rfl sc ?_ | refine finE false rfl rfl sc ?_))
    all_goals rfl
  · have h1 := ne_len h0
    have e1 : ((p.length : Int) - 1).toNat = p.length - 1 := by omega
    have f1 := ref03_FromIntW 1 (by decide) (by decide)
    have a1 := ref03_AbsB (lead p) ((ok_cf kp (by decide) _).mono (by decide))
    have hab : absQ (lead p) ≠ 0 := by
      have := lead_ne hT h0
      unfold absQ
      split
      · intro h; apply this; grind
      · exact this
    have ka : okQ 2000000 (absQ (lead p)) := by
      have := ok_cf kp (by decide) (p.length - 1)
      unfold absQ
      split
      · exact okQ.neg this
      · exact this
    have q1 := ref03_QuoQ ((1 : Int) : Rat) (absQ (lead p)) ((ok_intW (by decide)).mono (show _ ≤ 10000000 by decide)) (ka.mono (by decide)) hab
    have oc : okQ 3000000 (((1 : Int) : Rat) / absQ (lead p)) := ((ok_intW (v := 1) (by decide)).div ka hab).mono (by decide)
    have s1 := ref05_scaled (p.map rq) (rq (((1 : Int) : Rat) / absQ (lead p))) 0 (by rw [List.length_map]; exact hp) (by omega) (rqs_ok fun x hx => (kp x hx).mono (by decide)) (ok_rq (oc.mono (by decide)))
    rw [map_rv_rqL, rv_rq, show (shiftP 0 (smul (((1 : Int) : Rat) / absQ (lead p)) p)) = smallP p from rfl, trim_of (chOk_small.tr p hT)] at s1
    have s2 := s1.args (leQRs p (LeT.refl _))
    have a2 : Ret Tryz.prog 144 [qD (p.getD ((p.length : Int) - 1).toNat 0)] (· = qD (absQ (lead p))) := by rw [e1]; exact a1
    generalize ((1 : Int) : Rat) / absQ (lead p) = c at *
    generalize absQ (lead p) = y at *
    generalize ((1 : Int) : Rat) = u at *
    generalize smallP p = R at *
    clear kp a1 s1
    refine ret_of_awp tab Tryz.func111 rfl rfl (Nat.le_of_ble_eq_true rfl) (fun w0 F0 => ?_)
    repeat' (first
      | (show awpL _ _ _ _ _; first | refine goL ?_ | refine cl 31 tt rfl rfl rfl (hr := f1) (k := ?_) | refine cl 144 tt rfl rfl rfl (hr := a2) (k := ?_) | refine cl 105 tt rfl rfl rfl (hr := q1) (k := ?_) | refine cl 67 tt rfl rfl rfl (hr := s2) (k := ?_) | (refine gdLG ?_ ?_ <;> intro _ <;> try (exfalso; omega)))
      | (show awp _ _ _ _; first | refine goA ?_ | refine rg 3 10 ?_ | (refine cdG ?_ ?_ <;> intro _ <;> try (exfalso; omega)))
      | (show andThen _ _ _ _; refine goN ?_)
      | (show inBlock _ _ _ _; refine goB ?_)
      | (show awpR _ _ _ _ _ _ _; first | refine goR ?_ | refine clR 31 tt rfl rfl rfl (hr := f1) (k := ?_) | refine clR 144 tt rfl rfl rfl (hr := a2) (k := ?_) | refine clR 105 tt rfl rfl rfl (hr := q1) (k := ?_) | refine clR 67 tt rfl rfl rfl (hr := s2) (k := ?_) | (refine gdRG ?_ ?_ <;> intro _ <;> try (exfalso; omega)))
      | (show retPost _ _ _ _ _; refine finG ?_))
    rfl
theorem ref05_changes (F : List (List Rat)) (x : R3) (hF : F.length ≤ 1000) (he : ∀ i, i < F.length → Ret Tryz.prog 48 [qsD (F.getD i []), rD x] (· = qD (evalP (F.getD i []) (rv x))) ∧ okQ 10000000 (evalP (F.getD i []) (rv x))) : Ret Tryz.prog 72 [qssD F, rD x] (· = .int .i64 (chg 0 (F.map fun f => sgQ (evalP f (rv x))))) := by
  obtain ⟨S, hS⟩ : ∃ S, (F.map fun f => sgQ (evalP f (rv x))) = S := ⟨_, rfl⟩
  have hSl : S.length = F.length := by rw [← hS, List.length_map]
  have hSi : ∀ i, i < F.length → S.drop i = sgQ (evalP (F.getD i []) (rv x)) :: S.drop (i + 1) := fun i hi => by
    rw [List.drop_eq_getElem_cons (by omega)]
    congr 1
    subst hS
    simp [List.getD_eq_getElem?_getD, hi]
  rw [hS]
  clear hS
  obtain ⟨R, hR⟩ : ∃ R, chg 0 S = R := ⟨_, rfl⟩
  rw [hR]
  refine ret_of_awp tab Tryz.func72 rfl rfl (Nat.le_of_ble_eq_true rfl) (fun w0 F0 => ?_)
  repeat' (first
    | (show awpL _ _ _ _ _; first | refine goL ?_ | (refine gdLG ?_ ?_ <;> intro _ <;> try (exfalso; omega)))
    | (show awp _ _ _ _; first | refine goA ?_ | refine rg 5 5 ?_ | (refine cdG ?_ ?_ <;> intro _ <;> try (exfalso; omega)))
    | (show andThen _ _ _ _; refine goN ?_)
    | (show inBlock _ _ _ _; refine goB ?_)
    | (show awpR _ _ _ _ _ _ _; first | refine goR ?_ | (refine gdRG ?_ ?_ <;> intro _ <;> try (exfalso; omega)))
    | (show retPost _ _ _ _ _; refine finG ?_))
  refine awp_loop1 (fun (y : Int × Int × Nat) => ([(0, .d (qssD F)), (3, .ptr 3 0), (5, .d (.int .i64 y.1)), (6, .d (.int .i64 y.2.1)), (7, .d (.int .i64 y.2.2))], [(3, .box 29 ((rC x).map V.d))])) (fun y => 0 ≤ y.1 ∧ y.1 ≤ y.2.2 ∧ -1 ≤ y.2.1 ∧ y.2.1 ≤ 1 ∧ y.2.2 ≤ F.length ∧ y.1 + chg y.2.1 (S.drop y.2.2) = R) (fun y => F.length - y.2.2) (0, 0, 0) ⟨by decide, by decide, by decide, by decide, Nat.zero_le _, by show 0 + chg 0 (S.drop 0) = R; rw [List.drop_zero, hR]; omega⟩ ⟨rfl, rfl, rfl, rfl, rfl, rfl⟩ ⟨rfl, trivial⟩ (fun y hy => ?_)
  obtain ⟨n, last, i⟩ := y
  obtain ⟨i1, i2, i3, i4, i5, i6⟩ := hy
  dsimp only at i1 i2 i3 i4 i5 i6 ⊢
  by_cases h3 : i < F.length
  · obtain ⟨e1, e2⟩ := he i h3
    have e3 := ref03_SignQ _ e2
    rw [hSi i h3, chg] at i6
    have b1 : -1 ≤ sgQ (evalP (F.getD i []) (rv x)) ∧ sgQ (evalP (F.getD i []) (rv x)) ≤ 1 := by
      unfold sgQ
      rcases Int.lt_trichotomy (evalP (F.getD i []) (rv x)).num 0 with h | h | h
      · rw [Int.sign_eq_neg_one_of_neg h]; decide
      · rw [h]; decide
      · rw [Int.sign_eq_one_of_pos h]; decide
    have e4 : Ret Tryz.prog 91 [qD (evalP (F.getD i []) (rv x))] (· = .int .i64 (sgQ (evalP (F.getD i []) (rv x)))) := e3
    clear e3 e2 he hSi
    generalize sgQ (evalP (F.getD i []) (rv x)) = s at *
    generalize evalP (F.getD i []) (rv x) = v at *
    obtain ⟨b1, b2⟩ := b1
    by_cases c0 : s = 0
    · rw [if_neg (by omega), if_neg (by omega)] at i6
      repeat' (first
        | (show awpL _ _ _ _ _; first | refine goL ?_ | refine cl 48 tt rfl rfl rfl (hr := e1) (k := ?_) | refine cl 91 tt rfl rfl rfl (hr := e4) (k := ?_) | (refine gdLG ?_ ?_ <;> intro _ <;> try (exfalso; omega)))
        | (show awp _ _ _ _; first | refine goA ?_ | refine rg 5 5 ?_ | (refine cdG ?_ ?_ <;> intro _ <;> try (exfalso; omega)))
        | (show andThen _ _ _ _; refine goN ?_)
        | (show inBlock _ _ _ _; refine goB ?_)
        | (show awpR _ _ _ _ _ _ _; first | refine goR ?_ | refine clR 48 tt rfl rfl rfl (hr := e1) (k := ?_) | refine clR 91 tt rfl rfl rfl (hr := e4) (k := ?_) | (refine gdRG ?_ ?_ <;> intro _ <;> try (exfalso; omega)))
        | (show retPost _ _ _ _ _; refine finG ?_))
      all_goals exact ⟨(n, last, i + 1), ⟨i1, by show n ≤ ((i + 1 : Nat) : Int); omega, i3, i4, h3, by rw [← i6]; show n + chg last (S.drop (i + 1)) = _; omega⟩, by show F.length - (i + 1) < F.length - i; omega, ⟨rfl, rfl, rfl, rfl, rfl, rfl⟩, rfl, trivial⟩
    · rw [if_pos (show s ≠ 0 from c0)] at i6
      by_cases c1 : last ≠ 0 ∧ s ≠ last
      · rw [if_pos ⟨c0, c1.1, c1.2⟩] at i6
        obtain ⟨c1, c2⟩ := c1
        repeat' (first
          | (show awpL _ _ _ _ _; first | refine goL ?_ | refine cl 48 tt rfl rfl rfl (hr := e1) (k := ?_) | refine cl 91 tt rfl rfl rfl (hr := e4) (k := ?_) | (refine gdLG ?_ ?_ <;> intro _ <;> try (exfalso; omega)))
          | (show awp _ _ _ _; first | refine goA ?_ | refine rg 5 5 ?_ | (refine cdG ?_ ?_ <;> intro _ <;> try (exfalso; omega)))
          | (show andThen _ _ _ _; refine goN ?_)
          | (show inBlock _ _ _ _; refine goB ?_)
          | (show awpR _ _ _ _ _ _ _; first | refine goR ?_ | refine clR 48 tt rfl rfl rfl (hr := e1) (k := ?_) | refine clR 91 tt rfl rfl rfl (hr := e4) (k := ?_) | (refine gdRG ?_ ?_ <;> intro _ <;> try (exfalso; omega)))
          | (show retPost _ _ _ _ _; refine finG ?_))
        all_goals exact ⟨(n + 1, s, i + 1), ⟨by show 0 ≤ n + 1; omega, by show n + 1 ≤ ((i + 1 : Nat) : Int); omega, b1, b2, h3, by rw [← i6]; show n + 1 + chg s (S.drop (i + 1)) = _; omega⟩, by show F.length - (i + 1) < F.length - i; omega, ⟨rfl, rfl, rfl, rfl, rfl, rfl⟩, rfl, trivial⟩
      · rw [if_neg (fun h => c1 ⟨h.2.1, h.2.2⟩)] at i6
        repeat' (first
          | (show awpL _ _ _ _ _; first | refine goL ?_ | refine cl 48 tt rfl rfl rfl (hr := e1) (k := ?_) | refine cl 91 tt rfl rfl rfl (hr := e4) (k := ?_) | (refine gdLG ?_ ?_ <;> intro _ <;> try (exfalso; omega)))
          | (show awp _ _ _ _; first | refine goA ?_ | refine rg 5 5 ?_ | (refine cdG ?_ ?_ <;> intro _ <;> try (exfalso; omega)))
          | (show andThen _ _ _ _; refine goN ?_)
          | (show inBlock _ _ _ _; refine goB ?_)
          | (show awpR _ _ _ _ _ _ _; first | refine goR ?_ | refine clR 48 tt rfl rfl rfl (hr := e1) (k := ?_) | refine clR 91 tt rfl rfl rfl (hr := e4) (k := ?_) | (refine gdRG ?_ ?_ <;> intro _ <;> try (exfalso; omega)))
          | (show retPost _ _ _ _ _; refine finG ?_))
        all_goals exact ⟨(n, s, i + 1), ⟨i1, by show n ≤ ((i + 1 : Nat) : Int); omega, b1, b2, h3, by rw [← i6]; show n + chg s (S.drop (i + 1)) = _; omega⟩, by show F.length - (i + 1) < F.length - i; omega, ⟨rfl, rfl, rfl, rfl, rfl, rfl⟩, rfl, trivial⟩
  · have e : i = F.length := by omega
    rw [e, List.drop_of_length_le (by omega), chg] at i6
    clear he hSi
    repeat' (first
      | (show awpL _ _ _ _ _; first | refine goL ?_ | (refine gdLG ?_ ?_ <;> intro _ <;> try (exfalso; omega)))
      | (show awp _ _ _ _; first | refine goA ?_ | refine rg 5 5 ?_ | (refine cdG ?_ ?_ <;> intro _ <;> try (exfalso; omega)))
      | (show andThen _ _ _ _; refine goN ?_)
      | (show inBlock _ _ _ _; refine goB ?_)
      | (show awpR _ _ _ _ _ _ _; first | refine goR ?_ | (refine gdRG ?_ ?_ <;> intro _ <;> try (exfalso; omega)))
      | (show retPost _ _ _ _ _; refine finG ?_))
    rw [← i6, Int.add_zero]
end Go.Proofs.YtlphlodailailaaGreat
