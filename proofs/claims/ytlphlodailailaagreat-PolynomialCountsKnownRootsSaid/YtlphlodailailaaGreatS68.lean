/-
  A statement of the seat: what its contract is, and the claim. Conditions: as each says.
-/
import Derived.Test.YtlphlodailailaaGreatY28
import Derived.Test.YtlphlodailailaaGreatA09
set_option linter.unusedVariables false
set_option linter.unusedSimpArgs false
set_option maxHeartbeats 8000000
namespace Go.Proofs.YtlphlodailailaaGreat
open Go.Vw
attribute [local irreducible] awp awpL awpR

def nB : List Rat → Rat → Rat → Int
  | [], _, _ => 0
  | s :: S, a, b => (if a < s ∧ s ≤ b then 1 else 0) + nB S a b
theorem nB_bd : ∀ (S : List Rat) (a b : Rat), 0 ≤ nB S a b ∧ nB S a b ≤ S.length
  | [], a, b => ⟨Int.le_refl _, Int.le_refl _⟩
  | s :: S, a, b => by
    have := nB_bd S a b
    rw [nB, List.length_cons]
    split <;> omega
theorem nB_eq : ∀ (S : List Rat) {a b : Rat}, a < b → nLe S b - nLe S a = nB S a b
  | [], a, b, _ => rfl
  | s :: S, a, b, h => by
    have ih := nB_eq S h
    rw [nB, nLe, nLe, ← ih]
    by_cases h1 : s ≤ a
    · rw [if_pos h1, if_pos (by grind), if_neg (by grind)]; omega
    · by_cases h2 : s ≤ b
      · rw [if_neg h1, if_pos h2, if_pos ⟨by grind, h2⟩]; omega
      · rw [if_neg h1, if_neg h2, if_neg (fun e => h2 e.2)]; omega
theorem nB_zero : ∀ (S : List Rat) {a b : Rat}, ¬ a < b → nB S a b = 0
  | [], a, b, _ => rfl
  | s :: S, a, b, h => by rw [nB, nB_zero S h, if_neg (by grind)]; rfl
def agn (l : List Rat) (a b r : Rat) (k : Nat) : Bool := decide (¬ a < r) || decide (b < r) || decide (r ∈ l.take k)
theorem agn_step {l : List Rat} {a b r : Rat} {k : Nat} (h : k < l.length) : (agn l a b r k || decide (l.getD k 0 = r)) = agn l a b r (k + 1) := by
  unfold agn
  rw [List.take_add_one, List.getElem?_eq_getElem h, List.getD_eq_getElem?_getD, List.getElem?_eq_getElem h]
  simp only [Option.getD_some, Option.toList_some, List.mem_append, List.mem_singleton, Bool.or_assoc]
  rw [← Bool.decide_or]
  congr 3
  exact propext (by grind)
theorem nB_step {l : List Rat} {a b : Rat} {i : Nat} (h : i < l.length) : nB (ded (l.take (i + 1)).reverse).1 a b = nB (ded (l.take i).reverse).1 a b + (if agn l a b (l.getD i 0) i = true then 0 else 1) := by
  rw [take_rev h, ded]
  have hm : (l.getD i 0 ∈ (ded (l.take i).reverse).1) ↔ l.getD i 0 ∈ l.take i := by rw [ded_mem, List.mem_reverse]
  unfold agn
  by_cases c : l.getD i 0 ∈ l.take i
  · rw [if_pos (hm.2 c), decide_eq_true c, Bool.or_true, if_pos rfl]
    show nB (ded (l.take i).reverse).1 a b = _
    omega
  · rw [if_neg (fun e => c (hm.1 e)), decide_eq_false c, Bool.or_false]
    rw [show nB (l.getD i 0 :: (ded (l.take i).reverse).1, (ded (l.take i).reverse).2).1 a b = (if a < l.getD i 0 ∧ l.getD i 0 ≤ b then 1 else 0) + nB (ded (l.take i).reverse).1 a b from rfl]
    by_cases c1 : a < l.getD i 0
    · by_cases c2 : b < l.getD i 0
      · rw [if_neg (by grind), decide_eq_true c2, Bool.or_true, if_pos rfl]; omega
      · rw [if_pos ⟨c1, by grind⟩, decide_eq_false c2, decide_eq_false (by simpa using c1)]; simp; omega
    · rw [if_neg (by grind), decide_eq_true c1]; simp
theorem known_count (l : List Rat) (a b : Rat) (hl : l.length ≤ 5) (ho : ∀ x ∈ l, okQ 2 x) (oa : okQ 2 a) (ob : okQ 2 b) {q P : List Rat} (hq : isE q) (hP : P = mulT (mP l.reverse) q) : Ret Tryz.prog 22 [qsD P, qD a, qD b] (· = .int .i64 (nB (ded l.reverse).1 a b)) := by
  obtain ⟨k1, k2, k3, k4⟩ := mE_len (S := l.reverse) hq
  have ht := mE_ht (fun s hs => ho s (List.mem_reverse.1 hs)) hq
  rw [← hP] at k1 k2 k3 k4 ht
  rw [List.length_reverse] at k1 ht
  obtain ⟨c1, c2, c3⟩ := known_ctr hq hP (fun s hs => ho s (List.mem_reverse.1 hs)) (by rw [List.length_reverse]; exact hl)
  have h := polynomial_Count (P.map rq) (rq a) (rq b) (by rw [List.length_map]; omega) (rqs_ok fun x hx => (ht.okL x hx).mono (by omega)) (by rw [map_rv_rqL, trim_of k3]; exact fun _ => c1) (ok_rq (oa.mono (by decide))) (ok_rq (ob.mono (by decide)))
  rw [map_rv_rqL, trim_of k3, if_neg k2, c3, rv_rq, rv_rq] at h
  rw [show (if a < b then nLe (ded l.reverse).1 b - nLe (ded l.reverse).1 a else 0) = nB (ded l.reverse).1 a b by
    split
    · rename_i hlt; exact nB_eq _ hlt
    · rename_i hlt; exact (nB_zero _ hlt).symm] at h
  exact h.args (leQRs P (LeT.refl _))
theorem known_true (raw : List Int) (lo hi : Int) (more : Bool) (nr : raw.length ≤ 9223372036854775807) (xr : I64 raw) (l1 : -9223372036854775808 ≤ lo) (l2 : lo < 9223372036854775808) (h1 : -9223372036854775808 ≤ hi) (h2 : hi < 9223372036854775808) : Ret Tryz.prog 4 [i64s raw, .int .i64 lo, .int .i64 hi, .bool more] (· = .bool true) := by
  have aw := law05_awake
  have nm := made_Numbers raw 5 nr xr (by decide)
  have n1 := made_Number lo l1 l2
  have n2 := made_Number hi h1 h2
  have ol := nums2 raw 5
  have oa := numQ2 lo
  have ob := numQ2 hi
  have ll : ((raw.take 5).map numQ).length ≤ 5 := by rw [List.length_map, List.length_take]; omega
  generalize (raw.take 5).map numQ = l at *
  generalize numQ lo = a at *
  generalize numQ hi = b at *
  clear nr xr l1 l2 h1 h2
  have pr := law05_product l ll ol
  have i1 := law05_ints [3, 1, 1] (by decide) (by decide)
  rw [show ([3, 1, 1] : List Int).map (fun (v : Int) => (v : Rat)) = [3, 1, 1] by decide +kernel] at i1
  have oi : ∀ x ∈ ([3, 1, 1] : List Rat), okQ 22 x := fun x hx => ((isE.ht (e := [3, 1, 1]) (.inr rfl)).okL x hx).mono (by decide)
  have hm : ∀ x ∈ l.reverse, okQ 2 x := fun x hx => ol x (List.mem_reverse.1 hx)
  have lA : (mP l.reverse).length ≤ 6 := by rw [(mP_tr _).2.2.2, List.length_reverse]; omega
  have m1 := ref05_MulQ (mP l.reverse) [3, 1, 1] 22 (by omega) (by simp) (fun x hx => ((mP_ht hm).okL x hx).mono (by rw [List.length_reverse]; omega)) oi (by decide) (by simp)
  have e1 : mP l.reverse = mulT (mP l.reverse) [1] := (mP_tr _).1.ext (tr_mulT _ _) (eqv_of_eval fun x => by rw [ev_mE, ev_mP, ev_one, Rat.mul_one])
  have k1 := known_count l a b ll ol oa ob (.inl rfl) e1
  have k2 := known_count l a b ll ol oa ob (q := [3, 1, 1]) (.inr rfl) rfl
  obtain ⟨C, hC⟩ : ∃ C : Nat → Int, ∀ i, C i = nB (ded (l.take i).reverse).1 a b := ⟨fun i => nB (ded (l.take i).reverse).1 a b, fun _ => rfl⟩
  have c0 : C 0 = 0 := by rw [hC]; rfl
  have cb : ∀ i, 0 ≤ C i ∧ C i ≤ 100 := fun i => by
    rw [hC]
    have := nB_bd (ded (l.take i).reverse).1 a b
    have h2 := ded_len (l.take i).reverse
    rw [List.length_reverse, List.length_take] at h2
    omega
  have cs : ∀ i, i < l.length → C (i + 1) = C i + (if agn l a b (l.getD i 0) i = true then 0 else 1) := fun i hi => by rw [hC, hC]; exact nB_step hi
  rw [show nB (ded l.reverse).1 a b = C l.length by rw [hC, List.take_of_length_le (Nat.le_refl _)]] at k1 k2
  have og : ∀ i, okQ 2 (l.getD i 0) := fun i => ok_cf ol (by decide) i
  generalize mulT (mP l.reverse) [3, 1, 1] = Q at *
  generalize mP l.reverse = P at *
  generalize ([3, 1, 1] : List Rat) = E at *
  clear hC e1 oi hm lA ol
  cases more with
  | false =>
    refine ret_of_awp tab Tryz.func4 rfl rfl (Nat.le_of_ble_eq_true rfl) (fun w0 F0 => ?_)
    repeat' (first
      | (show awpL _ _ _ _ _; first | refine goL ?_ | refine cl 24 tt rfl rfl rfl (hr := nm) (k := ?_) | refine cl 25 tt rfl rfl rfl (hr := pr) (k := ?_) | refine cl 14 tt rfl rfl rfl (hr := n1) (k := ?_) | refine cl 14 tt rfl rfl rfl (hr := n2) (k := ?_) | (refine gdLG ?_ ?_ <;> intro _ <;> try (exfalso; omega)))
      | (show awp _ _ _ _; first | refine goA ?_ | refine rg 10 13 ?_ | refine rg 14 10 ?_ | (refine cdG ?_ ?_ <;> intro _ <;> try (exfalso; omega)))
      | (show andThen _ _ _ _; refine goN ?_)
      | (show inBlock _ _ _ _; refine goB ?_)
      | (show awpR _ _ _ _ _ _ _; first | refine goR ?_ | refine clR 24 tt rfl rfl rfl (hr := nm) (k := ?_) | refine clR 25 tt rfl rfl rfl (hr := pr) (k := ?_) | refine clR 14 tt rfl rfl rfl (hr := n1) (k := ?_) | refine clR 14 tt rfl rfl rfl (hr := n2) (k := ?_) | (refine gdRG ?_ ?_ <;> intro _ <;> try (exfalso; omega)))
      | (show retPost _ _ _ _ _; refine finG ?_))
    refine awp_loop1 (fun (i : Nat) => ([(8, .d (.bool false)), (9, .d (qsD l)), (10, .d (qsD P)), (11, .ptr 11 0), (12, .ptr 12 0), (13, .d (.int .i64 (C i))), (14, .d (.int .i64 i))], [(11, .box 29 ((rC (rq a)).map V.d)), (12, .box 29 ((rC (rq b)).map V.d))])) (fun i => i ≤ l.length) (fun i => l.length - i) 0 (by omega) ⟨rfl, rfl, rfl, rfl, rfl, (by rw [c0]; rfl), rfl, rfl⟩ ⟨rfl, rfl, trivial⟩ (fun i hi => ?_)
    by_cases h3 : i < l.length
    · have s1 := ref03_LessQ a (l.getD i 0) (oa.mono (by decide)) ((og i).mono (by decide))
      have s2 := ref03_LessQ b (l.getD i 0) (ob.mono (by decide)) ((og i).mono (by decide))
      have cs1 := cs i h3
      have cbi := cb i
      have ag0 : agn l a b (l.getD i 0) 0 = (!decide (a < l.getD i 0) || decide (b < l.getD i 0)) := by unfold agn; rw [List.take_zero]; simp
      have agS : ∀ k, k < l.length → (agn l a b (l.getD i 0) k || decide (l.getD k 0 = l.getD i 0)) = agn l a b (l.getD i 0) (k + 1) := fun k hk => agn_step hk
      have sm : ∀ k, Ret Tryz.prog 29 [qD (l.getD k 0), qD (l.getD i 0)] (· = .bool (decide (l.getD k 0 = l.getD i 0))) := fun k => ref03_SameQ _ _ ((og k).mono (by decide)) ((og i).mono (by decide))
      generalize agn l a b (l.getD i 0) = G at *
      generalize decide (a < l.getD i 0) = u1 at *
      generalize decide (b < l.getD i 0) = u2 at *
      cases u1 <;> cases u2
      all_goals
        repeat' (first
          | (show awpL _ _ _ _ _; first | refine goL ?_ | refine cl 28 tt rfl rfl rfl (hr := s1) (k := ?_) | refine cl 28 tt rfl rfl rfl (hr := s2) (k := ?_) | (refine gdLG ?_ ?_ <;> intro _ <;> try (exfalso; omega)))
          | (show awp _ _ _ _; first | refine goA ?_ | refine rg 10 13 ?_ | refine rg 14 10 ?_ | (refine cdG ?_ ?_ <;> intro _ <;> try (exfalso; omega)))
          | (show andThen _ _ _ _; refine goN ?_)
          | (show inBlock _ _ _ _; refine goB ?_)
          | (show awpR _ _ _ _ _ _ _; first | refine goR ?_ | refine clR 28 tt rfl rfl rfl (hr := s1) (k := ?_) | refine clR 28 tt rfl rfl rfl (hr := s2) (k := ?_) | (refine gdRG ?_ ?_ <;> intro _ <;> try (exfalso; omega)))
          | (show retPost _ _ _ _ _; refine finG ?_))
        refine awp_loop1 (fun (k : Nat) => ([(8, .d (.bool false)), (9, .d (qsD l)), (10, .d (qsD P)), (11, .ptr 11 0), (12, .ptr 12 0), (13, .d (.int .i64 (C i))), (14, .d (.int .i64 i)), (15, .d (.bool (G k))), (16, .d (.int .i64 k))], [(11, .box 29 ((rC (rq a)).map V.d)), (12, .box 29 ((rC (rq b)).map V.d))])) (fun k => k ≤ i) (fun k => i - k) 0 (by omega) ⟨rfl, rfl, rfl, rfl, rfl, rfl, rfl, (by rw [ag0]; rfl), rfl, rfl⟩ ⟨rfl, rfl, trivial⟩ (fun k hk => ?_)
        by_cases h4 : k < i
        · have sk := sm k
          have gk := agS k (by omega)
          clear sm agS cs
          generalize decide (l.getD k 0 = l.getD i 0) = u3 at *
          cases e1 : G k <;> cases u3
          all_goals
            rw [e1] at gk
            repeat' (first
              | (show awpL _ _ _ _ _; first | refine goL ?_ | refine cl 29 tt rfl rfl rfl (hr := sk) (k := ?_) | (refine gdLG ?_ ?_ <;> intro _ <;> try (exfalso; omega)))
              | (show awp _ _ _ _; first | refine goA ?_ | refine rg 10 13 ?_ | refine rg 14 10 ?_ | (refine cdG ?_ ?_ <;> intro _ <;> try (exfalso; omega)))
              | (show andThen _ _ _ _; refine goN ?_)
              | (show inBlock _ _ _ _; refine goB ?_)
              | (show awpR _ _ _ _ _ _ _; first | refine goR ?_ | refine clR 29 tt rfl rfl rfl (hr := sk) (k := ?_) | (refine gdRG ?_ ?_ <;> intro _ <;> try (exfalso; omega)))
              | (show retPost _ _ _ _ _; refine finG ?_))
            exact ⟨k + 1, by omega, by omega, ⟨rfl, rfl, rfl, rfl, rfl, rfl, rfl, (by rw [← gk]; rfl), iv (by omega), rfl⟩, rfl, rfl, trivial⟩
        · have e : k = i := by omega
          subst e
          clear sm agS cs
          cases e2 : G k
          · rw [e2] at cs1
            replace cs1 : C (k + 1) = C k + 1 := cs1
            repeat' (first
              | (show awpL _ _ _ _ _; first | refine goL ?_ | (refine gdLG ?_ ?_ <;> intro _ <;> try (exfalso; omega)))
              | (show awp _ _ _ _; first | refine goA ?_ | refine rg 10 13 ?_ | refine rg 14 10 ?_ | (refine cdG ?_ ?_ <;> intro _ <;> try (exfalso; omega)))
              | (show andThen _ _ _ _; refine goN ?_)
              | (show inBlock _ _ _ _; refine goB ?_)
              | (show awpR _ _ _ _ _ _ _; first | refine goR ?_ | (refine gdRG ?_ ?_ <;> intro _ <;> try (exfalso; omega)))
              | (show retPost _ _ _ _ _; refine finG ?_))
            exact ⟨k + 1, by omega, by omega, ⟨rfl, rfl, rfl, rfl, rfl, iv (by omega), iv (by omega), rfl⟩, rfl, rfl, trivial⟩
          · rw [e2] at cs1
            replace cs1 : C (k + 1) = C k := by rw [cs1, if_pos rfl]; omega
            repeat' (first
              | (show awpL _ _ _ _ _; first | refine goL ?_ | (refine gdLG ?_ ?_ <;> intro _ <;> try (exfalso; omega)))
              | (show awp _ _ _ _; first | refine goA ?_ | refine rg 10 13 ?_ | refine rg 14 10 ?_ | (refine cdG ?_ ?_ <;> intro _ <;> try (exfalso; omega)))
              | (show andThen _ _ _ _; refine goN ?_)
              | (show inBlock _ _ _ _; refine goB ?_)
              | (show awpR _ _ _ _ _ _ _; first | refine goR ?_ | (refine gdRG ?_ ?_ <;> intro _ <;> try (exfalso; omega)))
              | (show retPost _ _ _ _ _; refine finG ?_))
            exact ⟨k + 1, by omega, by omega, ⟨rfl, rfl, rfl, rfl, rfl, iv (by omega), iv (by omega), rfl⟩, rfl, rfl, trivial⟩
    · have e : i = l.length := by omega
      subst e
      repeat' (first
        | (show awpL _ _ _ _ _; first | refine goL ?_ | refine cl 15 tt rfl rfl rfl (hr := aw) (k := ?_) | refine cl 22 tt rfl rfl rfl (hr := k1) (k := ?_) | (refine gdLG ?_ ?_ <;> intro _ <;> try (exfalso; omega)))
        | (show awp _ _ _ _; first | refine goA ?_ | refine rg 10 13 ?_ | refine rg 14 10 ?_ | (refine cdG ?_ ?_ <;> intro _ <;> try (exfalso; omega)))
        | (show andThen _ _ _ _; refine goN ?_)
        | (show inBlock _ _ _ _; refine goB ?_)
        | (show awpR _ _ _ _ _ _ _; first | refine goR ?_ | refine clR 15 tt rfl rfl rfl (hr := aw) (k := ?_) | refine clR 22 tt rfl rfl rfl (hr := k1) (k := ?_) | (refine gdRG ?_ ?_ <;> intro _ <;> try (exfalso; omega)))
        | (show retPost _ _ _ _ _; refine finG ?_))
      all_goals simp
  | true =>
    refine ret_of_awp tab Tryz.func4 rfl rfl (Nat.le_of_ble_eq_true rfl) (fun w0 F0 => ?_)
    repeat' (first
      | (show awpL _ _ _ _ _; first | refine goL ?_ | refine cl 24 tt rfl rfl rfl (hr := nm) (k := ?_) | refine cl 25 tt rfl rfl rfl (hr := pr) (k := ?_) | refine cl 27 tt rfl rfl rfl (hr := i1) (k := ?_) | refine cl 26 tt rfl rfl rfl (hr := m1) (k := ?_) | refine cl 14 tt rfl rfl rfl (hr := n1) (k := ?_) | refine cl 14 tt rfl rfl rfl (hr := n2) (k := ?_) | (refine gdLG ?_ ?_ <;> intro _ <;> try (exfalso; omega)))
      | (show awp _ _ _ _; first | refine goA ?_ | refine rg 10 13 ?_ | refine rg 14 10 ?_ | (refine cdG ?_ ?_ <;> intro _ <;> try (exfalso; omega)))
      | (show andThen _ _ _ _; refine goN ?_)
      | (show inBlock _ _ _ _; refine goB ?_)
      | (show awpR _ _ _ _ _ _ _; first | refine goR ?_ | refine clR 24 tt rfl rfl rfl (hr := nm) (k := ?_) | refine clR 25 tt rfl rfl rfl (hr := pr) (k := ?_) | refine clR 27 tt rfl rfl rfl (hr := i1) (k := ?_) | refine clR 26 tt rfl rfl rfl (hr := m1) (k := ?_) | refine clR 14 tt rfl rfl rfl (hr := n1) (k := ?_) | refine clR 14 tt rfl rfl rfl (hr := n2) (k := ?_) | (refine gdRG ?_ ?_ <;> intro _ <;> try (exfalso; omega)))
      | (show retPost _ _ _ _ _; refine finG ?_))
    refine awp_loop1 (fun (i : Nat) => ([(8, .d (.bool false)), (9, .d (qsD l)), (10, .d (qsD Q)), (11, .ptr 11 0), (12, .ptr 12 0), (13, .d (.int .i64 (C i))), (14, .d (.int .i64 i))], [(11, .box 29 ((rC (rq a)).map V.d)), (12, .box 29 ((rC (rq b)).map V.d))])) (fun i => i ≤ l.length) (fun i => l.length - i) 0 (by omega) ⟨rfl, rfl, rfl, rfl, rfl, (by rw [c0]; rfl), rfl, rfl⟩ ⟨rfl, rfl, trivial⟩ (fun i hi => ?_)
    by_cases h3 : i < l.length
    · have s1 := ref03_LessQ a (l.getD i 0) (oa.mono (by decide)) ((og i).mono (by decide))
      have s2 := ref03_LessQ b (l.getD i 0) (ob.mono (by decide)) ((og i).mono (by decide))
      have cs1 := cs i h3
      have cbi := cb i
      have ag0 : agn l a b (l.getD i 0) 0 = (!decide (a < l.getD i 0) || decide (b < l.getD i 0)) := by unfold agn; rw [List.take_zero]; simp
      have agS : ∀ k, k < l.length → (agn l a b (l.getD i 0) k || decide (l.getD k 0 = l.getD i 0)) = agn l a b (l.getD i 0) (k + 1) := fun k hk => agn_step hk
      have sm : ∀ k, Ret Tryz.prog 29 [qD (l.getD k 0), qD (l.getD i 0)] (· = .bool (decide (l.getD k 0 = l.getD i 0))) := fun k => ref03_SameQ _ _ ((og k).mono (by decide)) ((og i).mono (by decide))
      generalize agn l a b (l.getD i 0) = G at *
      generalize decide (a < l.getD i 0) = u1 at *
      generalize decide (b < l.getD i 0) = u2 at *
      cases u1 <;> cases u2
      all_goals
        repeat' (first
          | (show awpL _ _ _ _ _; first | refine goL ?_ | refine cl 28 tt rfl rfl rfl (hr := s1) (k := ?_) | refine cl 28 tt rfl rfl rfl (hr := s2) (k := ?_) | (refine gdLG ?_ ?_ <;> intro _ <;> try (exfalso; omega)))
          | (show awp _ _ _ _; first | refine goA ?_ | refine rg 10 13 ?_ | refine rg 14 10 ?_ | (refine cdG ?_ ?_ <;> intro _ <;> try (exfalso; omega)))
          | (show andThen _ _ _ _; refine goN ?_)
          | (show inBlock _ _ _ _; refine goB ?_)
          | (show awpR _ _ _ _ _ _ _; first | refine goR ?_ | refine clR 28 tt rfl rfl rfl (hr := s1) (k := ?_) | refine clR 28 tt rfl rfl rfl (hr := s2) (k := ?_) | (refine gdRG ?_ ?_ <;> intro _ <;> try (exfalso; omega)))
          | (show retPost _ _ _ _ _; refine finG ?_))
        refine awp_loop1 (fun (k : Nat) => ([(8, .d (.bool false)), (9, .d (qsD l)), (10, .d (qsD Q)), (11, .ptr 11 0), (12, .ptr 12 0), (13, .d (.int .i64 (C i))), (14, .d (.int .i64 i)), (15, .d (.bool (G k))), (16, .d (.int .i64 k))], [(11, .box 29 ((rC (rq a)).map V.d)), (12, .box 29 ((rC (rq b)).map V.d))])) (fun k => k ≤ i) (fun k => i - k) 0 (by omega) ⟨rfl, rfl, rfl, rfl, rfl, rfl, rfl, (by rw [ag0]; rfl), rfl, rfl⟩ ⟨rfl, rfl, trivial⟩ (fun k hk => ?_)
        by_cases h4 : k < i
        · have sk := sm k
          have gk := agS k (by omega)
          clear sm agS cs
          generalize decide (l.getD k 0 = l.getD i 0) = u3 at *
          cases e1 : G k <;> cases u3
          all_goals
            rw [e1] at gk
            repeat' (first
              | (show awpL _ _ _ _ _; first | refine goL ?_ | refine cl 29 tt rfl rfl rfl (hr := sk) (k := ?_) | (refine gdLG ?_ ?_ <;> intro _ <;> try (exfalso; omega)))
              | (show awp _ _ _ _; first | refine goA ?_ | refine rg 10 13 ?_ | refine rg 14 10 ?_ | (refine cdG ?_ ?_ <;> intro _ <;> try (exfalso; omega)))
              | (show andThen _ _ _ _; refine goN ?_)
              | (show inBlock _ _ _ _; refine goB ?_)
              | (show awpR _ _ _ _ _ _ _; first | refine goR ?_ | refine clR 29 tt rfl rfl rfl (hr := sk) (k := ?_) | (refine gdRG ?_ ?_ <;> intro _ <;> try (exfalso; omega)))
              | (show retPost _ _ _ _ _; refine finG ?_))
            exact ⟨k + 1, by omega, by omega, ⟨rfl, rfl, rfl, rfl, rfl, rfl, rfl, (by rw [← gk]; rfl), iv (by omega), rfl⟩, rfl, rfl, trivial⟩
        · have e : k = i := by omega
          subst e
          clear sm agS cs
          cases e2 : G k
          · rw [e2] at cs1
            replace cs1 : C (k + 1) = C k + 1 := cs1
            repeat' (first
              | (show awpL _ _ _ _ _; first | refine goL ?_ | (refine gdLG ?_ ?_ <;> intro _ <;> try (exfalso; omega)))
              | (show awp _ _ _ _; first | refine goA ?_ | refine rg 10 13 ?_ | refine rg 14 10 ?_ | (refine cdG ?_ ?_ <;> intro _ <;> try (exfalso; omega)))
              | (show andThen _ _ _ _; refine goN ?_)
              | (show inBlock _ _ _ _; refine goB ?_)
              | (show awpR _ _ _ _ _ _ _; first | refine goR ?_ | (refine gdRG ?_ ?_ <;> intro _ <;> try (exfalso; omega)))
              | (show retPost _ _ _ _ _; refine finG ?_))
            exact ⟨k + 1, by omega, by omega, ⟨rfl, rfl, rfl, rfl, rfl, iv (by omega), iv (by omega), rfl⟩, rfl, rfl, trivial⟩
          · rw [e2] at cs1
            replace cs1 : C (k + 1) = C k := by rw [cs1, if_pos rfl]; omega
            repeat' (first
              | (show awpL _ _ _ _ _; first | refine goL ?_ | (refine gdLG ?_ ?_ <;> intro _ <;> try (exfalso; omega)))
              | (show awp _ _ _ _; first | refine goA ?_ | refine rg 10 13 ?_ | refine rg 14 10 ?_ | (refine cdG ?_ ?_ <;> intro _ <;> try (exfalso; omega)))
              | (show andThen _ _ _ _; refine goN ?_)
              | (show inBlock _ _ _ _; refine goB ?_)
              | (show awpR _ _ _ _ _ _ _; first | refine goR ?_ | (refine gdRG ?_ ?_ <;> intro _ <;> try (exfalso; omega)))
              | (show retPost _ _ _ _ _; refine finG ?_))
            exact ⟨k + 1, by omega, by omega, ⟨rfl, rfl, rfl, rfl, rfl, iv (by omega), iv (by omega), rfl⟩, rfl, rfl, trivial⟩
    · have e : i = l.length := by omega
      subst e
      repeat' (first
        | (show awpL _ _ _ _ _; first | refine goL ?_ | refine cl 15 tt rfl rfl rfl (hr := aw) (k := ?_) | refine cl 22 tt rfl rfl rfl (hr := k2) (k := ?_) | (refine gdLG ?_ ?_ <;> intro _ <;> try (exfalso; omega)))
        | (show awp _ _ _ _; first | refine goA ?_ | refine rg 10 13 ?_ | refine rg 14 10 ?_ | (refine cdG ?_ ?_ <;> intro _ <;> try (exfalso; omega)))
        | (show andThen _ _ _ _; refine goN ?_)
        | (show inBlock _ _ _ _; refine goB ?_)
        | (show awpR _ _ _ _ _ _ _; first | refine goR ?_ | refine clR 15 tt rfl rfl rfl (hr := aw) (k := ?_) | refine clR 22 tt rfl rfl rfl (hr := k2) (k := ?_) | (refine gdRG ?_ ?_ <;> intro _ <;> try (exfalso; omega)))
        | (show retPost _ _ _ _ _; refine finG ?_))
      all_goals simp
end Go.Proofs.YtlphlodailailaaGreat
