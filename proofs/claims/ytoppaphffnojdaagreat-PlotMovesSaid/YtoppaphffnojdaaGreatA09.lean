/-
  Contracts of functions of the program, and the layer that they are walked with: W19 N18b W01 VW VX VY W03 Plots W04 W11 W12 VV. Conditions: as each says.
-/
import Derived.Deep.Slices
import Derived.Carry
import Derived.OpenShut
import Derived.WalkKit
import Derived.ProofKit
import Derived.Deep.DeepHandedRow
import Derived.Lib.LaidTab
import Derived.Test.YtoppaphffnojdaaGreatA08
set_option linter.unusedVariables false
set_option linter.unusedSimpArgs false
set_option maxHeartbeats 16000000
namespace Go.Proofs.YtoppaphffnojdaaGreat
open Go.Vw
attribute [local irreducible] awp awpL awpR

theorem below_perm {a b : Nat} {d d' : Array Rat} (hab : a ≤ b) (hb : b ≤ d.size) (h : Go.Sort.Below ltQ a b d) (hp : Go.Sort.PermIn a b d d') : Go.Sort.Below ltQ a b d' := h.permA Go.Sort.permIn_all hb hp
theorem hint_dec {h : Go.Sort.Hint} : hintN h = 2 ↔ h = .decreasing := by cases h <;> simp [hintN]
theorem sl_pdq : ∀ (n : Nat) (d : Array Rat) (a b lim : Nat), b - a ≤ n → AllOk d → d.size < 250 → a ≤ b → b ≤ d.size → Go.Sort.Below ltQ a b d → lim < 1000 → RetB Tryz.prog 151 [ow d, .d (.int .i64 a), .d (.int .i64 b), .d (.int .i64 lim), cmpV] (lookB [(1000, bq d)]) (.tup []) (lookB [(1000, bq (srtIn d a b))]) := by
  intro n
  induction n using Nat.strongRecOn with
  | _ n ih =>
  intro d a b lim hbn hd hn hab hb hB hlim
  have hl : d.toList.length = d.size := Array.length_toList
  have hr := srtIn_size hab hb
  obtain ⟨R, hR⟩ : ∃ R, srtIn d a b = R := ⟨_, rfl⟩
  rw [hR] at hr ⊢
  refine retB_of_awp tab [1000] Tryz.func151 rfl rfl rfl (Nat.le_of_ble_eq_true rfl) rfl ⟨by show d.toList.length ≤ R.toList.length; simp [hr], trivial⟩ (fun w0 F0 A io0 => ?_)
  repeat' (first
    | (show awpL _ _ _ _ _; first | refine goL ?_ | (refine gdLG ?_ ?_ <;> intro _ <;> try (exfalso; omega)))
    | (show awp _ _ _ _; first | refine goA ?_ | refine rg 17 13 ?_ | (refine cdG ?_ ?_ <;> intro _ <;> try (exfalso; omega)))
    | (show andThen _ _ _ _; refine goN ?_)
    | (show inBlock _ _ _ _; refine goB ?_)
    | (show awpR _ _ _ _ _ _ _; first | refine goR ?_ | (refine gdRG ?_ ?_ <;> intro _ <;> try (exfalso; omega)))
    | (show retPost _ _ _ _ _; refine finG ?_)
    | (show retPostB _ _ _ _ _ _; first | refine finB rfl rfl ?_ ?_ | refine finBT rfl rfl rfl ?_ ?_))
  refine awp_loop1 (fun (p : Array Rat × Nat × Nat × Nat × Bool × Bool) => ([(0, ow d), (1, .d (.int .i64 p.2.1)), (2, .d (.int .i64 p.2.2.1)), (3, .d (.int .i64 p.2.2.2.1)), (4, cmpV), (10, .d (.bool p.2.2.2.2.1)), (11, .d (.bool p.2.2.2.2.2))], [(1000, bq p.1)])) (fun p => p.1.size = d.size ∧ AllOk p.1 ∧ p.2.1 ≤ p.2.2.1 ∧ p.2.2.1 - p.2.1 ≤ b - a ∧ p.2.2.1 ≤ d.size ∧ Go.Sort.Below ltQ p.2.1 p.2.2.1 p.1 ∧ p.2.2.2.1 < 1000 ∧ srtIn p.1 p.2.1 p.2.2.1 = R) (fun p => p.2.2.1 - p.2.1) (d, a, b, lim, true, true) ⟨rfl, hd, hab, Nat.le_refl _, hb, hB, hlim, hR⟩ ⟨rfl, rfl, rfl, rfl, rfl, rfl, rfl, rfl⟩ ⟨rfl, trivial⟩ (fun p hp => ?_)
  obtain ⟨m, x, y, l, wb, wp⟩ := p
  dsimp only at hp ⊢
  obtain ⟨q1, q2, q3, q4, q5, q6, q7, q8⟩ := hp
  have hml : m.toList.length = m.size := Array.length_toList
  clear hR hd hB
  by_cases c1 : y - x ≤ 12
  · have ci := sl_insertion m x y q2 (by omega) q3 (by omega)
    rw [q8, show ow m = ow d by unfold ow; rw [q1]] at ci
    clear ih
    repeat' (first
      | (show awpL _ _ _ _ _; first | refine goL ?_ | refine clB 159 [] (ci) tt rfl rfl rfl rfl rfl rfl leVT allB ?_ | (refine gdLG ?_ ?_ <;> intro _ <;> try (exfalso; omega)))
      | (show awp _ _ _ _; first | refine goA ?_ | refine rg 17 13 ?_ | (refine cdG ?_ ?_ <;> intro _ <;> try (exfalso; omega)))
      | (show andThen _ _ _ _; refine goN ?_)
      | (show inBlock _ _ _ _; refine goB ?_)
      | (show awpR _ _ _ _ _ _ _; first | refine goR ?_ | (refine gdRG ?_ ?_ <;> intro _ <;> try (exfalso; omega)))
      | (show retPost _ _ _ _ _; refine finG ?_)
      | (show retPostB _ _ _ _ _ _; first | refine finB rfl rfl ?_ ?_ | refine finBT rfl rfl rfl ?_ ?_))
    all_goals first | exact leVT | exact ⟨rfl, trivial⟩
  by_cases c2 : l = 0
  · subst c2
    have ci := sl_heap m x y q2 (by omega) (by omega) (by omega)
    rw [q8, show ow m = ow d by unfold ow; rw [q1]] at ci
    clear ih
    repeat' (first
      | (show awpL _ _ _ _ _; first | refine goL ?_ | refine clB 160 [] (ci) tt rfl rfl rfl rfl rfl rfl leVT allB ?_ | (refine gdLG ?_ ?_ <;> intro _ <;> try (exfalso; omega)))
      | (show awp _ _ _ _; first | refine goA ?_ | refine rg 17 13 ?_ | (refine cdG ?_ ?_ <;> intro _ <;> try (exfalso; omega)))
      | (show andThen _ _ _ _; refine goN ?_)
      | (show inBlock _ _ _ _; refine goB ?_)
      | (show awpR _ _ _ _ _ _ _; first | refine goR ?_ | (refine gdRG ?_ ?_ <;> intro _ <;> try (exfalso; omega)))
      | (show retPost _ _ _ _ _; refine finG ?_)
      | (show retPostB _ _ _ _ _ _; first | refine finB rfl rfl ?_ ?_ | refine finBT rfl rfl rfl ?_ ?_))
    all_goals first | exact leVT | exact ⟨rfl, trivial⟩
  obtain ⟨d1, l1, h1, h2⟩ : ∃ d1 l1, Go.Sort.PermIn x y m d1 ∧ (wb = true ∧ d1 = m ∧ l1 = l ∨ wb = false ∧ d1 = brkAll m x y ∧ l1 = l - 1) := by
    cases wb
    · exact ⟨_, _, brkAll_perm m (by omega) (by omega) (by omega), .inr ⟨rfl, rfl, rfl⟩⟩
    · exact ⟨_, _, Go.Sort.permIn_refl m x y, .inl ⟨rfl, rfl, rfl⟩⟩
  have s1 := h1.1
  have o1 := q2.perm q3 (by omega) h1
  have B1 := below_perm q3 (by omega) q6 h1
  have e1 := (srtIn_move q3 (by omega) h1).trans q8
  have hl1 : d1.toList.length = d1.size := Array.length_toList
  repeat' (first
    | (show awpL _ _ _ _ _; first | refine goL ?_ | (refine gdLG ?_ ?_ <;> intro _ <;> try (exfalso; omega)))
    | (show awp _ _ _ _; first | refine stopA 7 tt ?_)
    | (show awp _ _ _ _; first | refine goA ?_ | refine rg 17 13 ?_ | (refine cdG ?_ ?_ <;> intro _ <;> try (exfalso; omega)))
    | (show andThen _ _ _ _; refine goN ?_)
    | (show inBlock _ _ _ _; refine goB ?_)
    | (show awpR _ _ _ _ _ _ _; first | refine goR ?_ | (refine gdRG ?_ ?_ <;> intro _ <;> try (exfalso; omega)))
    | (show retPost _ _ _ _ _; refine finG ?_)
    | (show retPostB _ _ _ _ _ _; first | refine finB rfl rfl ?_ ?_ | refine finBT rfl rfl rfl ?_ ?_))
  refine stopOut ?_
  refine awp_meet1 (fun (_ : Unit) => ([(0, ow d), (1, .d (.int .i64 x)), (2, .d (.int .i64 y)), (3, .d (.int .i64 l1)), (4, cmpV), (10, .d (.bool wb)), (11, .d (.bool wp)), (12, .d (.int .i64 (y - x : Nat)))], [(1000, bq d1)])) (fun _ => True) (fun _ _ => ?_) ?_
  rotate_left
  · rcases h2 with ⟨rfl, rfl, rfl⟩ | ⟨rfl, rfl, rfl⟩
    · repeat' (first
        | (show awpL _ _ _ _ _; first | refine goL ?_ | (refine gdLG ?_ ?_ <;> intro _ <;> try (exfalso; omega)))
        | (show awp _ _ _ _; first | refine goA ?_ | refine rg 17 13 ?_ | (refine cdG ?_ ?_ <;> intro _ <;> try (exfalso; omega)))
        | (show andThen _ _ _ _; refine goN ?_)
        | (show inBlock _ _ _ _; refine goB ?_)
        | (show awpR _ _ _ _ _ _ _; first | refine goR ?_ | (refine gdRG ?_ ?_ <;> intro _ <;> try (exfalso; omega)))
        | (show retPost _ _ _ _ _; refine finG ?_)
        | (show retPostB _ _ _ _ _ _; first | refine finB rfl rfl ?_ ?_ | refine finBT rfl rfl rfl ?_ ?_))
      exact ⟨(), trivial, ⟨rfl, rfl, rfl, rfl, rfl, rfl, rfl, iv (by omega), rfl⟩, rfl, trivial⟩
    · have cb := sl_break m x y q2 (by omega) (by omega) (by omega)
      rw [show ow m = ow d by unfold ow; rw [q1]] at cb
      generalize brkAll m x y = d1 at *
      repeat' (first
        | (show awpL _ _ _ _ _; first | refine goL ?_ | refine clB 161 [] (cb) tt rfl rfl rfl rfl rfl rfl leVT allB ?_ | (refine gdLG ?_ ?_ <;> intro _ <;> try (exfalso; omega)))
        | (show awp _ _ _ _; first | refine goA ?_ | refine rg 17 13 ?_ | (refine cdG ?_ ?_ <;> intro _ <;> try (exfalso; omega)))
        | (show andThen _ _ _ _; refine goN ?_)
        | (show inBlock _ _ _ _; refine goB ?_)
        | (show awpR _ _ _ _ _ _ _; first | refine goR ?_ | (refine gdRG ?_ ?_ <;> intro _ <;> try (exfalso; omega)))
        | (show retPost _ _ _ _ _; refine finG ?_)
        | (show retPostB _ _ _ _ _ _; first | refine finB rfl rfl ?_ ?_ | refine finBT rfl rfl rfl ?_ ?_))
      exact ⟨(), trivial, ⟨rfl, rfl, rfl, iv (by omega), rfl, rfl, rfl, iv (by omega), rfl⟩, rfl, trivial⟩
  replace h2 : l1 < 1000 := by rcases h2 with ⟨_, _, h⟩ | ⟨_, _, h⟩ <;> omega
  replace s1 : d1.size = d.size := by omega
  clear h1 q8 q6 q2 hml q1 q7 c2
  have cp := sl_choose d1 x y o1 (by omega) (by omega) (by omega)
  rw [show ow d1 = ow d by unfold ow; rw [s1]] at cp
  have cr := Go.Sort.choosePivot_holds ltQ d1 x y (by omega)
  obtain ⟨⟨pv, hint⟩, hch⟩ : ∃ r, Go.Sort.choosePivot ltQ d1 x y = r := ⟨_, rfl⟩
  rw [hch] at cp cr
  dsimp only at cp cr
  clear hch
  obtain ⟨d2, p2, t2, h3, h4, h5⟩ : ∃ d2 p2 t2, Go.Sort.PermIn x y d1 d2 ∧ (x ≤ p2 ∧ p2 < y) ∧ (hint = .decreasing ∧ d2 = Go.Sort.reverseRange d1 x y ∧ p2 = (y - 1) - (pv - x) ∧ t2 = 1 ∨ hint ≠ .decreasing ∧ d2 = d1 ∧ p2 = pv ∧ t2 = hintN hint) := by
    by_cases hh : hint = .decreasing
    · exact ⟨_, _, _, Go.Sort.reverseRange_holds d1 x y q3 (by omega), by omega, .inl ⟨hh, rfl, rfl, rfl⟩⟩
    · exact ⟨_, _, _, Go.Sort.permIn_refl d1 x y, by omega, .inr ⟨hh, rfl, rfl, rfl⟩⟩
  have s2 := h3.1
  have o2 := o1.perm q3 (by omega) h3
  have B2 := below_perm q3 (by omega) B1 h3
  have e2 := (srtIn_move q3 (by omega) h3).trans e1
  have hl2 : d2.toList.length = d2.size := Array.length_toList
  repeat' (first
    | (show awpL _ _ _ _ _; first | refine goL ?_ | refine clB 162 [] (cp) tt rfl rfl rfl rfl rfl rfl leVT allB ?_ | (refine gdLG ?_ ?_ <;> intro _ <;> try (exfalso; omega)))
    | (show awp _ _ _ _; first | refine stopA 11 tt ?_)
    | (show awp _ _ _ _; first | refine goA ?_ | refine rg 17 13 ?_ | (refine cdG ?_ ?_ <;> intro _ <;> try (exfalso; omega)))
    | (show andThen _ _ _ _; refine goN ?_)
    | (show inBlock _ _ _ _; refine goB ?_)
    | (show awpR _ _ _ _ _ _ _; first | refine goR ?_ | (refine gdRG ?_ ?_ <;> intro _ <;> try (exfalso; omega)))
    | (show retPost _ _ _ _ _; refine finG ?_)
    | (show retPostB _ _ _ _ _ _; first | refine finB rfl rfl ?_ ?_ | refine finBT rfl rfl rfl ?_ ?_))
  refine stopOut ?_
  refine awp_meet1 (fun (_ : Unit) => ([(0, ow d), (1, .d (.int .i64 x)), (2, .d (.int .i64 y)), (3, .d (.int .i64 l1)), (4, cmpV), (10, .d (.bool wb)), (11, .d (.bool wp)), (12, .d (.int .i64 (y - x : Nat))), (13, .d (.int .i64 p2)), (14, .d (.int .i64 t2))], [(1000, bq d2)])) (fun _ => True) (fun _ _ => ?_) ?_
  rotate_left
  · rcases h5 with ⟨hh, rfl, h6, rfl⟩ | ⟨hh, rfl, rfl, rfl⟩
    · have h7 := hint_dec.2 hh
      have cb := sl_reverse d1 x y (by omega) (by omega) (by omega)
      rw [show ow d1 = ow d by unfold ow; rw [s1]] at cb
      generalize Go.Sort.reverseRange d1 x y = d2 at *
      generalize hintN hint = hn2 at *
      repeat' (first
        | (show awpL _ _ _ _ _; first | refine goL ?_ | refine clB 163 [] (cb) tt rfl rfl rfl rfl rfl rfl leVT allB ?_ | (refine gdLG ?_ ?_ <;> intro _ <;> try (exfalso; omega)))
        | (show awp _ _ _ _; first | refine goA ?_ | refine rg 17 13 ?_ | (refine cdG ?_ ?_ <;> intro _ <;> try (exfalso; omega)))
        | (show andThen _ _ _ _; refine goN ?_)
        | (show inBlock _ _ _ _; refine goB ?_)
        | (show awpR _ _ _ _ _ _ _; first | refine goR ?_ | (refine gdRG ?_ ?_ <;> intro _ <;> try (exfalso; omega)))
        | (show retPost _ _ _ _ _; refine finG ?_)
        | (show retPostB _ _ _ _ _ _; first | refine finB rfl rfl ?_ ?_ | refine finBT rfl rfl rfl ?_ ?_))
      exact ⟨(), trivial, ⟨rfl, rfl, rfl, rfl, rfl, rfl, rfl, rfl, iv (by omega), rfl, rfl⟩, rfl, trivial⟩
    · have h7 := mt hint_dec.1 hh
      generalize hintN hint = hn2 at *
      repeat' (first
        | (show awpL _ _ _ _ _; first | refine goL ?_ | (refine gdLG ?_ ?_ <;> intro _ <;> try (exfalso; omega)))
        | (show awp _ _ _ _; first | refine goA ?_ | refine rg 17 13 ?_ | (refine cdG ?_ ?_ <;> intro _ <;> try (exfalso; omega)))
        | (show andThen _ _ _ _; refine goN ?_)
        | (show inBlock _ _ _ _; refine goB ?_)
        | (show awpR _ _ _ _ _ _ _; first | refine goR ?_ | (refine gdRG ?_ ?_ <;> intro _ <;> try (exfalso; omega)))
        | (show retPost _ _ _ _ _; refine finG ?_)
        | (show retPostB _ _ _ _ _ _; first | refine finB rfl rfl ?_ ?_ | refine finBT rfl rfl rfl ?_ ?_))
      exact ⟨(), trivial, ⟨rfl, rfl, rfl, rfl, rfl, rfl, rfl, rfl, rfl, rfl, rfl⟩, rfl, trivial⟩
  clear h5 cp cr hint pv
  replace s2 : d2.size = d.size := by omega
  clear h3 e1 B1 o1 hl1 s1 d1
  have cq := sl_partial d2 x y o2 (by omega) (by omega) (by omega)
  rw [show ow d2 = ow d by unfold ow; rw [s2]] at cq
  have hq := Go.Sort.partialInsertionSort_holds swoQ d2 x y (by omega) (by omega) B2
  obtain ⟨⟨d4, fl⟩, hch⟩ : ∃ r, Go.Sort.partialInsertionSort ltQ d2 x y = r := ⟨_, rfl⟩
  rw [hch] at cq hq
  dsimp only at cq hq
  clear hch
  have s4 := hq.1.1
  have o4 := o2.perm q3 (by omega) hq.1
  have B4 := below_perm q3 (by omega) B2 hq.1
  have e4 := (srtIn_move q3 (by omega) hq.1).trans e2
  have hl4 : d4.toList.length = d4.size := Array.length_toList
  repeat' (first
    | (show awpL _ _ _ _ _; first | refine goL ?_ | (refine gdLG ?_ ?_ <;> intro _ <;> try (exfalso; omega)))
    | (show awp _ _ _ _; first | refine stopA 15 tt ?_)
    | (show awp _ _ _ _; first | refine goA ?_ | refine rg 17 13 ?_ | (refine cdG ?_ ?_ <;> intro _ <;> try (exfalso; omega)))
    | (show andThen _ _ _ _; refine goN ?_)
    | (show inBlock _ _ _ _; refine goB ?_)
    | (show awpR _ _ _ _ _ _ _; first | refine goR ?_ | (refine gdRG ?_ ?_ <;> intro _ <;> try (exfalso; omega)))
    | (show retPost _ _ _ _ _; refine finG ?_)
    | (show retPostB _ _ _ _ _ _; first | refine finB rfl rfl ?_ ?_ | refine finBT rfl rfl rfl ?_ ?_))
  refine stopOut ?_
  refine awp_meet1 (fun (m : Array Rat) => ([(0, ow d), (1, .d (.int .i64 x)), (2, .d (.int .i64 y)), (3, .d (.int .i64 l1)), (4, cmpV), (10, .d (.bool wb)), (11, .d (.bool wp)), (12, .d (.int .i64 (y - x : Nat))), (13, .d (.int .i64 p2))], [(1000, bq m)])) (fun m => m.size = d.size ∧ AllOk m ∧ Go.Sort.Below ltQ x y m ∧ srtIn m x y = R) (fun m hm => ?_) ?_
  rotate_left
  · cases wb
    · repeat' (first
        | (show awpL _ _ _ _ _; first | refine goL ?_ | (refine gdLG ?_ ?_ <;> intro _ <;> try (exfalso; omega)))
        | (show awp _ _ _ _; first | refine goA ?_ | refine rg 17 13 ?_ | (refine cdG ?_ ?_ <;> intro _ <;> try (exfalso; omega)))
        | (show andThen _ _ _ _; refine goN ?_)
        | (show inBlock _ _ _ _; refine goB ?_)
        | (show awpR _ _ _ _ _ _ _; first | refine goR ?_ | (refine gdRG ?_ ?_ <;> intro _ <;> try (exfalso; omega)))
        | (show retPost _ _ _ _ _; refine finG ?_)
        | (show retPostB _ _ _ _ _ _; first | refine finB rfl rfl ?_ ?_ | refine finBT rfl rfl rfl ?_ ?_))
      exact ⟨d2, ⟨by omega, o2, B2, e2⟩, ⟨rfl, rfl, rfl, rfl, rfl, rfl, rfl, rfl, rfl, rfl⟩, rfl, trivial⟩
    · cases wp
      · repeat' (first
          | (show awpL _ _ _ _ _; first | refine goL ?_ | (refine gdLG ?_ ?_ <;> intro _ <;> try (exfalso; omega)))
          | (show awp _ _ _ _; first | refine goA ?_ | refine rg 17 13 ?_ | (refine cdG ?_ ?_ <;> intro _ <;> try (exfalso; omega)))
          | (show andThen _ _ _ _; refine goN ?_)
          | (show inBlock _ _ _ _; refine goB ?_)
          | (show awpR _ _ _ _ _ _ _; first | refine goR ?_ | (refine gdRG ?_ ?_ <;> intro _ <;> try (exfalso; omega)))
          | (show retPost _ _ _ _ _; refine finG ?_)
          | (show retPostB _ _ _ _ _ _; first | refine finB rfl rfl ?_ ?_ | refine finBT rfl rfl rfl ?_ ?_))
        exact ⟨d2, ⟨by omega, o2, B2, e2⟩, ⟨rfl, rfl, rfl, rfl, rfl, rfl, rfl, rfl, rfl, rfl⟩, rfl, trivial⟩
      · by_cases ht : t2 = 1
        · subst ht
          cases fl
          · repeat' (first
              | (show awpL _ _ _ _ _; first | refine goL ?_ | refine clB 164 [] (cq) tt rfl rfl rfl rfl rfl rfl leVT allB ?_ | (refine gdLG ?_ ?_ <;> intro _ <;> try (exfalso; omega)))
              | (show awp _ _ _ _; first | refine goA ?_ | refine rg 17 13 ?_ | (refine cdG ?_ ?_ <;> intro _ <;> try (exfalso; omega)))
              | (show andThen _ _ _ _; refine goN ?_)
              | (show inBlock _ _ _ _; refine goB ?_)
              | (show awpR _ _ _ _ _ _ _; first | refine goR ?_ | (refine gdRG ?_ ?_ <;> intro _ <;> try (exfalso; omega)))
              | (show retPost _ _ _ _ _; refine finG ?_)
              | (show retPostB _ _ _ _ _ _; first | refine finB rfl rfl ?_ ?_ | refine finBT rfl rfl rfl ?_ ?_))
            exact ⟨d4, ⟨by omega, o4, B4, e4⟩, ⟨rfl, rfl, rfl, rfl, rfl, rfl, rfl, rfl, rfl, rfl⟩, rfl, trivial⟩
          · have e5 := srtIn_of q3 (by omega) (Go.Sort.permIn_refl d4 x y) (hq.2 rfl)
            rw [e4] at e5
            subst e5
            repeat' (first
              | (show awpL _ _ _ _ _; first | refine goL ?_ | refine clB 164 [] (cq) tt rfl rfl rfl rfl rfl rfl leVT allB ?_ | (refine gdLG ?_ ?_ <;> intro _ <;> try (exfalso; omega)))
              | (show awp _ _ _ _; first | refine goA ?_ | refine rg 17 13 ?_ | (refine cdG ?_ ?_ <;> intro _ <;> try (exfalso; omega)))
              | (show andThen _ _ _ _; refine goN ?_)
              | (show inBlock _ _ _ _; refine goB ?_)
              | (show awpR _ _ _ _ _ _ _; first | refine goR ?_ | (refine gdRG ?_ ?_ <;> intro _ <;> try (exfalso; omega)))
              | (show retPost _ _ _ _ _; refine finG ?_)
              | (show retPostB _ _ _ _ _ _; first | refine finB rfl rfl ?_ ?_ | refine finBT rfl rfl rfl ?_ ?_))
            all_goals first | exact leVT | exact ⟨rfl, trivial⟩
        · repeat' (first
            | (show awpL _ _ _ _ _; first | refine goL ?_ | (refine gdLG ?_ ?_ <;> intro _ <;> try (exfalso; omega)))
            | (show awp _ _ _ _; first | refine goA ?_ | refine rg 17 13 ?_ | (refine cdG ?_ ?_ <;> intro _ <;> try (exfalso; omega)))
            | (show andThen _ _ _ _; refine goN ?_)
            | (show inBlock _ _ _ _; refine goB ?_)
            | (show awpR _ _ _ _ _ _ _; first | refine goR ?_ | (refine gdRG ?_ ?_ <;> intro _ <;> try (exfalso; omega)))
            | (show retPost _ _ _ _ _; refine finG ?_)
            | (show retPostB _ _ _ _ _ _; first | refine finB rfl rfl ?_ ?_ | refine finBT rfl rfl rfl ?_ ?_))
          exact ⟨d2, ⟨by omega, o2, B2, e2⟩, ⟨rfl, rfl, rfl, rfl, rfl, rfl, rfl, rfl, rfl, rfl⟩, rfl, trivial⟩
  clear cq hq s4 o4 B4 e4 hl4 e2 B2 o2 s2 hl2 d2 d4 fl t2
  obtain ⟨q1, q2, q6, q8⟩ := hm
  have hml : m.toList.length = m.size := Array.length_toList
  have part : RetB Tryz.prog 166 [ow d, .d (.int .i64 x), .d (.int .i64 y), .d (.int .i64 p2), cmpV] (lookB [(1000, bq m)]) (.tup [.d (.int .i64 (Go.Sort.partition ltQ m x y p2).1), .d (.bool (Go.Sort.partition ltQ m x y p2).2.1)]) (lookB [(1000, bq (Go.Sort.partition ltQ m x y p2).2.2)]) := by
    have := sl_partition m x y p2 q2 (by omega) h4.1 h4.2 (by omega)
    rw [show ow m = ow d by unfold ow; rw [q1]] at this
    exact this
  have pf : ∀ mid ap d5, Go.Sort.partition ltQ m x y p2 = (mid, ap, d5) → _ := fun mid ap d5 he => Go.Sort.round_part swoQ (Go.Sort.partition_holds ltQ) h4.1 h4.2 (by omega) q6 he
  have po := (Go.Sort.partition_holds ltQ swoQ m x y p2 h4.1 h4.2 (by omega)).2.2.1
  obtain ⟨⟨mid, ap, d5⟩, hpt⟩ : ∃ r, Go.Sort.partition ltQ m x y p2 = r := ⟨_, rfl⟩
  obtain ⟨f1, f2, f3, f4, f5, f6, f7⟩ := pf mid ap d5 hpt
  rw [hpt] at part po
  dsimp only at part po
  clear pf hpt
  have o5 := q2.perm q3 (by omega) po
  have hl5 : d5.toList.length = d5.size := Array.length_toList
  have tail : ∀ s : St, True := fun _ => trivial
  by_cases cc : 0 < x ∧ ltQ m[x - 1]! m[p2]! = false
  · obtain ⟨x', rfl⟩ : ∃ t, x = t + 1 := ⟨x - 1, by omega⟩
    obtain ⟨u, u1, u2, hu, c⟩ := cmpR (m.toList.getD (((x' + 1 : Nat) : Int) - 1).toNat 0) (m.toList.getD p2 0) (q2.get (by omega)) (q2.get (by omega))
    rw [show (((x' + 1 : Nat) : Int) - 1).toNat = x' + 1 - 1 by omega, getQ, getQ, cc.2] at hu
    have hu2 : ¬ u < 0 := fun h => absurd (hu.1 h) (by decide)
    have hge : ∀ i, x' + 1 ≤ i → i < y → ltQ m[i]! m[p2]! = false := fun i hi hi' => by
      rcases q6 with h0 | h0
      · omega
      · exact swoQ.ntrans _ _ _ (h0 i hi hi') cc.2
    have ce := sl_partitionEq m (x' + 1) y p2 q2 (by omega) h4.1 h4.2 (by omega) hge
    rw [show ow m = ow d by unfold ow; rw [q1]] at ce
    have pe := (Go.Sort.partitionEqual_holds ltQ swoQ m (x' + 1) y p2 h4.1 h4.2 (by omega) hge).2.2.1
    obtain ⟨⟨mi, d6⟩, hpe⟩ : ∃ r, Go.Sort.partitionEqual ltQ m (x' + 1) y p2 = r := ⟨_, rfl⟩
    obtain ⟨g1, g2, g3, g4, g5⟩ := Go.Sort.round_eq swoQ (Go.Sort.partitionEqual_holds ltQ) cc.1 h4.1 h4.2 (by omega) q6 cc.2 hpe
    rw [hpe] at ce pe
    dsimp only at ce pe
    have o6 := q2.perm q3 (by omega) pe
    obtain ⟨g6, g7⟩ := g5 _ (srtIn_perm g2 (by omega)) (srtIn_asc g2 (by omega))
    have g8 := (srtIn_of q3 (by omega) g6 g7).trans q8
    clear hpe pe hge hu part po f1 f2 f3 f4 f5 f6 f7 o5 ih
    repeat' (first
      | (show awpL _ _ _ _ _; first | refine goL ?_ | refine clB 165 [] (ce) tt rfl rfl rfl rfl rfl rfl leVT allB ?_ | refine cl 65 tt rfl rfl rfl (hr := c) (k := ?_) | (refine gdLG ?_ ?_ <;> intro _ <;> try (exfalso; omega)))
      | (show awp _ _ _ _; first | refine goA ?_ | refine rg 17 13 ?_ | (refine cdG ?_ ?_ <;> intro _ <;> try (exfalso; omega)))
      | (show andThen _ _ _ _; refine goN ?_)
      | (show inBlock _ _ _ _; refine goB ?_)
      | (show awpR _ _ _ _ _ _ _; first | refine goR ?_ | refine clR 65 tt rfl rfl rfl (hr := c) (k := ?_) | (refine gdRG ?_ ?_ <;> intro _ <;> try (exfalso; omega)))
      | (show retPost _ _ _ _ _; refine finG ?_)
      | (show retPostB _ _ _ _ _ _; first | refine finB rfl rfl ?_ ?_ | refine finBT rfl rfl rfl ?_ ?_))
    exact ⟨(d6, mi, y, l1, wb, wp), ⟨by show d6.size = _; omega, o6, g2, by show y - mi ≤ _; omega, q5, g4, h2, g8⟩, by show y - mi < y - (x' + 1); omega, ⟨rfl, rfl, rfl, rfl, rfl, rfl, rfl, rfl⟩, rfl, trivial⟩
  · have main : ∀ (C : Prop), True := fun _ => trivial
    by_cases sd : mid - x < y - mid
    · have rc : RetB Tryz.prog 151 [ow d, .d (.int .i64 x), .d (.int .i64 mid), .d (.int .i64 l1), cmpV] (lookB [(1000, bq d5)]) (.tup []) (lookB [(1000, bq (srtIn d5 x mid))]) := by
        have := ih (mid - x) (by omega) d5 x mid l1 (Nat.le_refl _) o5 (by omega) f1 (by omega) f4 h2
        rw [show ow d5 = ow d by unfold ow; rw [f3, q1]] at this
        exact this
      have sp := srtIn_perm (d := d5) f1 (by omega)
      obtain ⟨k1, k2⟩ := f6 _ sp (srtIn_asc f1 (by omega))
      have k3 := o5.perm f1 (by omega) sp
      have k4 := sp.1
      generalize srtIn d5 x mid = d7 at *
      obtain ⟨k5, k6⟩ := k2 _ (srtIn_perm (a := mid + 1) (b := y) (by omega) (by omega)) (srtIn_asc (by omega) (by omega))
      have k7 := (srtIn_of q3 (by omega) k5 k6).trans q8
      have hl7 : d7.toList.length = d7.size := Array.length_toList
      clear k2 k5 k6 f6 f7 f4 f5 sp po
      by_cases hx : 0 < x
      · obtain ⟨x', rfl⟩ : ∃ t, x = t + 1 := ⟨x - 1, by omega⟩
        obtain ⟨u, u1, u2, hu, c⟩ := cmpR (m.toList.getD (((x' + 1 : Nat) : Int) - 1).toNat 0) (m.toList.getD p2 0) (q2.get (by omega)) (q2.get (by omega))
        rw [show (((x' + 1 : Nat) : Int) - 1).toNat = x' + 1 - 1 by omega, getQ, getQ] at hu
        have hu2 : u < 0 := hu.2 (by
          cases hz : ltQ m[x' + 1 - 1]! m[p2]! with
          | true => rfl
          | false => exact absurd ⟨hx, hz⟩ cc)
        clear hu cc
        repeat' (first
          | (show awpL _ _ _ _ _; first | refine goL ?_ | refine clB 166 [] (part) tt rfl rfl rfl rfl rfl rfl leVT allB ?_ | refine clB 151 [] (rc) tt rfl rfl rfl rfl rfl rfl leVT allB ?_ | refine cl 65 tt rfl rfl rfl (hr := c) (k := ?_) | (refine gdLG ?_ ?_ <;> intro _ <;> try (exfalso; omega)))
          | (show awp _ _ _ _; first | refine goA ?_ | refine rg 17 13 ?_ | (refine cdG ?_ ?_ <;> intro _ <;> try (exfalso; omega)))
          | (show andThen _ _ _ _; refine goN ?_)
          | (show inBlock _ _ _ _; refine goB ?_)
          | (show awpR _ _ _ _ _ _ _; first | refine goR ?_ | refine clR 65 tt rfl rfl rfl (hr := c) (k := ?_) | (refine gdRG ?_ ?_ <;> intro _ <;> try (exfalso; omega)))
          | (show retPost _ _ _ _ _; refine finG ?_)
          | (show retPostB _ _ _ _ _ _; first | refine finB rfl rfl ?_ ?_ | refine finBT rfl rfl rfl ?_ ?_))
        exact ⟨(d7, mid + 1, y, l1, _, ap), ⟨by show d7.size = _; omega, k3, by show mid + 1 ≤ y; omega, by show y - (mid + 1) ≤ _; omega, q5, k1, h2, k7⟩, by show y - (mid + 1) < y - (x' + 1); omega, ⟨rfl, rfl, rfl, rfl, rfl, rfl, rfl, rfl⟩, rfl, trivial⟩
      · clear cc
        repeat' (first
          | (show awpL _ _ _ _ _; first | refine goL ?_ | refine clB 166 [] (part) tt rfl rfl rfl rfl rfl rfl leVT allB ?_ | refine clB 151 [] (rc) tt rfl rfl rfl rfl rfl rfl leVT allB ?_ | (refine gdLG ?_ ?_ <;> intro _ <;> try (exfalso; omega)))
          | (show awp _ _ _ _; first | refine goA ?_ | refine rg 17 13 ?_ | (refine cdG ?_ ?_ <;> intro _ <;> try (exfalso; omega)))
          | (show andThen _ _ _ _; refine goN ?_)
          | (show inBlock _ _ _ _; refine goB ?_)
          | (show awpR _ _ _ _ _ _ _; first | refine goR ?_ | (refine gdRG ?_ ?_ <;> intro _ <;> try (exfalso; omega)))
          | (show retPost _ _ _ _ _; refine finG ?_)
          | (show retPostB _ _ _ _ _ _; first | refine finB rfl rfl ?_ ?_ | refine finBT rfl rfl rfl ?_ ?_))
        exact ⟨(d7, mid + 1, y, l1, _, ap), ⟨by show d7.size = _; omega, k3, by show mid + 1 ≤ y; omega, by show y - (mid + 1) ≤ _; omega, q5, k1, h2, k7⟩, by show y - (mid + 1) < y - x; omega, ⟨rfl, rfl, rfl, rfl, rfl, rfl, rfl, rfl⟩, rfl, trivial⟩
    · have rc : RetB Tryz.prog 151 [ow d, .d (.int .i64 (mid + 1 : Nat)), .d (.int .i64 y), .d (.int .i64 l1), cmpV] (lookB [(1000, bq d5)]) (.tup []) (lookB [(1000, bq (srtIn d5 (mid + 1) y))]) := by
        have := ih (y - (mid + 1)) (by omega) d5 (mid + 1) y l1 (Nat.le_refl _) o5 (by omega) (by omega) (by omega) f5 h2
        rw [show ow d5 = ow d by unfold ow; rw [f3, q1]] at this
        exact this
      have sp := srtIn_perm (d := d5) (a := mid + 1) (b := y) (by omega) (by omega)
      obtain ⟨k1, k2⟩ := f7 _ sp (srtIn_asc (by omega) (by omega))
      have k3 := o5.perm (show mid + 1 ≤ y by omega) (by omega) sp
      have k4 := sp.1
      generalize srtIn d5 (mid + 1) y = d7 at *
      obtain ⟨k5, k6⟩ := k2 _ (srtIn_perm f1 (by omega)) (srtIn_asc f1 (by omega))
      have k7 := (srtIn_of q3 (by omega) k5 k6).trans q8
      have hl7 : d7.toList.length = d7.size := Array.length_toList
      clear k2 k5 k6 f6 f7 f4 f5 sp po
      by_cases hx : 0 < x
      · obtain ⟨x', rfl⟩ : ∃ t, x = t + 1 := ⟨x - 1, by omega⟩
        obtain ⟨u, u1, u2, hu, c⟩ := cmpR (m.toList.getD (((x' + 1 : Nat) : Int) - 1).toNat 0) (m.toList.getD p2 0) (q2.get (by omega)) (q2.get (by omega))
        rw [show (((x' + 1 : Nat) : Int) - 1).toNat = x' + 1 - 1 by omega, getQ, getQ] at hu
        have hu2 : u < 0 := hu.2 (by
          cases hz : ltQ m[x' + 1 - 1]! m[p2]! with
          | true => rfl
          | false => exact absurd ⟨hx, hz⟩ cc)
        clear hu cc
        repeat' (first
          | (show awpL _ _ _ _ _; first | refine goL ?_ | refine clB 166 [] (part) tt rfl rfl rfl rfl rfl rfl leVT allB ?_ | refine clB 151 [] (rc) tt rfl rfl rfl rfl rfl rfl leVT allB ?_ | refine cl 65 tt rfl rfl rfl (hr := c) (k := ?_) | (refine gdLG ?_ ?_ <;> intro _ <;> try (exfalso; omega)))
          | (show awp _ _ _ _; first | refine goA ?_ | refine rg 17 13 ?_ | (refine cdG ?_ ?_ <;> intro _ <;> try (exfalso; omega)))
          | (show andThen _ _ _ _; refine goN ?_)
          | (show inBlock _ _ _ _; refine goB ?_)
          | (show awpR _ _ _ _ _ _ _; first | refine goR ?_ | refine clR 65 tt rfl rfl rfl (hr := c) (k := ?_) | (refine gdRG ?_ ?_ <;> intro _ <;> try (exfalso; omega)))
          | (show retPost _ _ _ _ _; refine finG ?_)
          | (show retPostB _ _ _ _ _ _; first | refine finB rfl rfl ?_ ?_ | refine finBT rfl rfl rfl ?_ ?_))
        exact ⟨(d7, x' + 1, mid, l1, _, ap), ⟨by show d7.size = _; omega, k3, f1, by show mid - (x' + 1) ≤ _; omega, by show mid ≤ _; omega, k1, h2, k7⟩, by show mid - (x' + 1) < y - (x' + 1); omega, ⟨rfl, rfl, rfl, rfl, rfl, rfl, rfl, rfl⟩, rfl, trivial⟩
      · clear cc
        repeat' (first
          | (show awpL _ _ _ _ _; first | refine goL ?_ | refine clB 166 [] (part) tt rfl rfl rfl rfl rfl rfl leVT allB ?_ | refine clB 151 [] (rc) tt rfl rfl rfl rfl rfl rfl leVT allB ?_ | (refine gdLG ?_ ?_ <;> intro _ <;> try (exfalso; omega)))
          | (show awp _ _ _ _; first | refine goA ?_ | refine rg 17 13 ?_ | (refine cdG ?_ ?_ <;> intro _ <;> try (exfalso; omega)))
          | (show andThen _ _ _ _; refine goN ?_)
          | (show inBlock _ _ _ _; refine goB ?_)
          | (show awpR _ _ _ _ _ _ _; first | refine goR ?_ | (refine gdRG ?_ ?_ <;> intro _ <;> try (exfalso; omega)))
          | (show retPost _ _ _ _ _; refine finG ?_)
          | (show retPostB _ _ _ _ _ _; first | refine finB rfl rfl ?_ ?_ | refine finBT rfl rfl rfl ?_ ?_))
        exact ⟨(d7, x, mid, l1, _, ap), ⟨by show d7.size = _; omega, k3, f1, by show mid - x ≤ _; omega, by show mid ≤ _; omega, k1, h2, k7⟩, by show mid - x < y - x; omega, ⟨rfl, rfl, rfl, rfl, rfl, rfl, rfl, rfl⟩, rfl, trivial⟩
end Go.Proofs.YtoppaphffnojdaaGreat

set_option linter.unusedVariables false
set_option linter.unusedSimpArgs false
namespace Go.Proofs.YtoppaphffnojdaaGreat
open Go.Vw
attribute [local irreducible] awp awpL awpR

theorem tmodFact (k n : Int) (h : 0 < n) : -n < k.tmod n ∧ k.tmod n < n ∧ k % n = if k.tmod n < 0 then k.tmod n + n else k.tmod n := by
  have h1 := Int.tmod_lt_of_pos k h
  have h2 := Int.lt_tmod_of_pos k h
  have h3 := Int.emod_nonneg k (show n ≠ 0 by omega)
  have h4 := Int.emod_lt_of_pos k h
  have e1 := Int.mul_tdiv_add_tmod k n
  have e2 := Int.mul_ediv_add_emod k n
  refine ⟨h2, h1, ?_⟩
  have hd : n * (k.tdiv n - k / n) = k % n - k.tmod n := by rw [Int.mul_sub]; omega
  split
  · have hb : -(2 * n) < n * (k.tdiv n - k / n) ∧ n * (k.tdiv n - k / n) < 2 * n ∧ 0 < n * (k.tdiv n - k / n) := by omega
    have h5 : 0 < k.tdiv n - k / n := Int.pos_of_mul_pos_right hb.2.2 h
    have h6 : k.tdiv n - k / n < 2 := by
      rcases Int.lt_or_le (k.tdiv n - k / n) 2 with h7 | h7
      · exact h7
      · have := Int.mul_le_mul_of_nonneg_left h7 (Int.le_of_lt h); omega
    rw [show k.tdiv n - k / n = 1 by omega] at hd
    omega
  · have hb : -n < n * (k.tdiv n - k / n) ∧ n * (k.tdiv n - k / n) < n := by omega
    have h5 : -1 < k.tdiv n - k / n := by
      rcases Int.lt_or_le (-1) (k.tdiv n - k / n) with h7 | h7
      · exact h7
      · have := Int.mul_le_mul_of_nonneg_left h7 (Int.le_of_lt h); omega
    have h6 : k.tdiv n - k / n < 1 := by
      rcases Int.lt_or_le (k.tdiv n - k / n) 1 with h7 | h7
      · exact h7
      · have := Int.mul_le_mul_of_nonneg_left h7 (Int.le_of_lt h); omega
    rw [show k.tdiv n - k / n = 0 by omega] at hd
    omega
end Go.Proofs.YtoppaphffnojdaaGreat

set_option linter.unusedVariables false
set_option linter.unusedSimpArgs false
set_option maxHeartbeats 4000000
namespace Go.Proofs.YtoppaphffnojdaaGreat
open Go.Vw
attribute [local irreducible] awp awpL awpR

@[reducible] def tp (l : List Int) (a : Nat) : Blk := .box 55 [.d (i64s l), .d (.int .i64 a)]
def I64 (l : List Int) : Prop := ∀ x ∈ l, -9223372036854775808 ≤ x ∧ x < 9223372036854775808
theorem I64.getD {l : List Int} (h : I64 l) (i : Nat) : -9223372036854775808 ≤ l.getD i 0 ∧ l.getD i 0 < 9223372036854775808 := by
  rw [List.getD_eq_getElem?_getD]
  by_cases hi : i < l.length
  · rw [List.getElem?_eq_getElem hi]; exact h _ (List.getElem_mem hi)
  · rw [List.getElem?_eq_none (by omega)]; decide
theorem world_Mod (k n : Int) (hk : -9223372036854775808 ≤ k) (hk' : k < 9223372036854775808) (h : 0 < n) (h' : n < 1000000) : Ret Tryz.prog 45 [.int .i64 k, .int .i64 n] (· = .int .i64 (k % n)) := by
  obtain ⟨t1, t2, t3⟩ := tmodFact k n h
  rw [t3]
  refine ret_of_awp tab Tryz.func45 rfl rfl (Nat.le_of_ble_eq_true rfl) (fun w0 F0 => ?_)
  repeat' (first
    | (show awpL _ _ _ _ _; first | refine goL ?_ | (refine gdLG ?_ ?_ <;> intro _ <;> try (exfalso; omega)))
    | (show awp _ _ _ _; first | refine goA ?_ | (refine cdG ?_ ?_ <;> intro _ <;> try (exfalso; omega)))
    | (show andThen _ _ _ _; refine goN ?_)
    | (show inBlock _ _ _ _; refine goB ?_)
    | (show retPost _ _ _ _ _; refine finG ?_)
    | (show retPostB _ _ _ _ _ _; first | refine finB rfl rfl ?_ ?_ | refine finBT rfl rfl rfl ?_ ?_))
  · rename_i hc; rw [if_pos hc]
  · rename_i hc; rw [if_neg hc]
theorem world_Next (l : List Int) (a : Nat) (n : Int) (hl : l.length ≤ 400) (hx : I64 l) (ha : a ≤ l.length) (h1 : -9223372036854775808 ≤ n) (h2 : n < 1000000) : ∃ (r : Int) (b : Nat), 0 ≤ r ∧ (r < n ∨ r = 0) ∧ b ≤ l.length ∧ RetB Tryz.prog 18 [.ptr 1000 0, .d (.int .i64 n)] (lookB [(1000, tp l a)]) (.d (.int .i64 r)) (lookB [(1000, tp l b)]) := by
  by_cases h : n < 1 ∨ l.length ≤ a
  · refine ⟨0, a, by omega, by omega, ha, ?_⟩
    refine retB_of_awp tab [1000] Tryz.func18 rfl rfl rfl (Nat.le_of_ble_eq_true rfl) rfl ⟨Nat.le_refl _, trivial⟩ (fun w0 F0 A io0 => ?_)
    repeat' (first
      | (show awpL _ _ _ _ _; first | refine goL ?_ | (refine gdLG ?_ ?_ <;> intro _ <;> try (exfalso; omega)))
      | (show awp _ _ _ _; first | refine goA ?_ | refine rg 1 12 ?_ | refine rg 4 12 ?_ | (refine cdG ?_ ?_ <;> intro _ <;> try (exfalso; omega)))
      | (show andThen _ _ _ _; refine goN ?_)
      | (show inBlock _ _ _ _; refine goB ?_)
      | (show awpR _ _ _ _ _ _ _; first | refine goR ?_ | (refine gdRG ?_ ?_ <;> intro _ <;> try (exfalso; omega)))
      | (show retPost _ _ _ _ _; refine finG ?_)
      | (show retPostB _ _ _ _ _ _; first | refine finB rfl rfl ?_ ?_ | refine finBT rfl rfl rfl ?_ ?_))
    all_goals first | exact leVT | exact ⟨rfl, trivial⟩
  · have hg := hx.getD ((a : Int) + 1 - 1).toNat
    have m := world_Mod _ n hg.1 hg.2 (by omega) h2
    refine ⟨l.getD ((a : Int) + 1 - 1).toNat 0 % n, a + 1, Int.emod_nonneg _ (by omega), .inl (Int.emod_lt_of_pos _ (by omega)), by omega, ?_⟩
    refine retB_of_awp tab [1000] Tryz.func18 rfl rfl rfl (Nat.le_of_ble_eq_true rfl) rfl ⟨Nat.le_refl _, trivial⟩ (fun w0 F0 A io0 => ?_)
    repeat' (first
      | (show awpL _ _ _ _ _; first | refine goL ?_ | refine cl 45 tt rfl rfl rfl (hr := m) (k := ?_) | (refine gdLG ?_ ?_ <;> intro _ <;> try (exfalso; omega)))
      | (show awp _ _ _ _; first | refine goA ?_ | refine rg 1 12 ?_ | refine rg 4 12 ?_ | (refine cdG ?_ ?_ <;> intro _ <;> try (exfalso; omega)))
      | (show andThen _ _ _ _; refine goN ?_)
      | (show inBlock _ _ _ _; refine goB ?_)
      | (show awpR _ _ _ _ _ _ _; first | refine goR ?_ | refine clR 45 tt rfl rfl rfl (hr := m) (k := ?_) | (refine gdRG ?_ ?_ <;> intro _ <;> try (exfalso; omega)))
      | (show retPost _ _ _ _ _; refine finG ?_)
      | (show retPostB _ _ _ _ _ _; first | refine finB rfl rfl ?_ ?_ | refine finBT rfl rfl rfl ?_ ?_))
    all_goals first | exact leVT | exact ⟨rfl, trivial⟩
theorem world_Bool (l : List Int) (a : Nat) (n : Int) (hl : l.length ≤ 400) (hx : I64 l) (ha : a ≤ l.length) (h1 : -9223372036854775807 ≤ n) (h2 : n < 1000000) : ∃ (r : Bool) (b : Nat), b ≤ l.length ∧ RetB Tryz.prog 12 [.ptr 1000 0, .d (.int .i64 n)] (lookB [(1000, tp l a)]) (.d (.bool r)) (lookB [(1000, tp l b)]) := by
  obtain ⟨r, b, r1, r2, r3, hn⟩ := world_Next l a n hl hx ha (by omega) h2
  refine ⟨decide (r = n - 1), b, r3, ?_⟩
  refine retB_of_awp tab [1000] Tryz.func12 rfl rfl rfl (Nat.le_of_ble_eq_true rfl) rfl ⟨Nat.le_refl _, trivial⟩ (fun w0 F0 A io0 => ?_)
  repeat' (first
    | (show awpL _ _ _ _ _; first | refine goL ?_ | refine clB 18 [] (hn) tt rfl rfl rfl rfl rfl rfl leVT allB ?_ | (refine gdLG ?_ ?_ <;> intro _ <;> try (exfalso; omega)))
    | (show awp _ _ _ _; first | refine goA ?_ | (refine cdG ?_ ?_ <;> intro _ <;> try (exfalso; omega)))
    | (show andThen _ _ _ _; refine goN ?_)
    | (show inBlock _ _ _ _; refine goB ?_)
    | (show retPost _ _ _ _ _; refine finG ?_)
    | (show retPostB _ _ _ _ _ _; first | refine finB rfl rfl ?_ ?_ | refine finBT rfl rfl rfl ?_ ?_))
  all_goals first | exact leVT | exact ⟨rfl, trivial⟩
theorem world_Pick (l : List Int) (a : Nat) (p : List Int) (hl : l.length ≤ 400) (hx : I64 l) (ha : a ≤ l.length) (h1 : 0 < p.length) (h2 : p.length < 1000000) : ∃ (r : Int) (b : Nat), r ∈ p ∧ b ≤ l.length ∧ RetB Tryz.prog 13 [.ptr 1000 0, .d (i64s p)] (lookB [(1000, tp l a)]) (.d (.int .i64 r)) (lookB [(1000, tp l b)]) := by
  obtain ⟨r, b, r1, r2, r3, hn⟩ := world_Next l a (p.length : Int) hl hx ha (by omega) (by omega)
  have hr : r.toNat < p.length := by omega
  refine ⟨p.getD r.toNat 0, b, ?_, r3, ?_⟩
  · rw [List.getD_eq_getElem?_getD, List.getElem?_eq_getElem hr]; exact List.getElem_mem hr
  refine retB_of_awp tab [1000] Tryz.func13 rfl rfl rfl (Nat.le_of_ble_eq_true rfl) rfl ⟨Nat.le_refl _, trivial⟩ (fun w0 F0 A io0 => ?_)
  repeat' (first
    | (show awpL _ _ _ _ _; first | refine goL ?_ | refine clB 18 [] (hn) tt rfl rfl rfl rfl rfl rfl leVT allB ?_ | (refine gdLG ?_ ?_ <;> intro _ <;> try (exfalso; omega)))
    | (show awp _ _ _ _; first | refine goA ?_ | (refine cdG ?_ ?_ <;> intro _ <;> try (exfalso; omega)))
    | (show andThen _ _ _ _; refine goN ?_)
    | (show inBlock _ _ _ _; refine goB ?_)
    | (show retPost _ _ _ _ _; refine finG ?_)
    | (show retPostB _ _ _ _ _ _; first | refine finB rfl rfl ?_ ?_ | refine finBT rfl rfl rfl ?_ ?_))
  all_goals first | exact leVT | exact ⟨rfl, trivial⟩
theorem world_New (l : List Int) (hl : l.length ≤ 9223372036854775807) (hx : I64 l) : ∃ (m : List Int), m.length ≤ 400 ∧ I64 m ∧ RetB Tryz.prog 10 [.d (i64s l)] (lookB []) (.ptr 10 0) (lookB [(10, tp m 0)]) := by
  by_cases h : 400 < l.length
  · refine ⟨l.take 400, by simp; omega, fun x hm => hx x (List.mem_of_mem_take hm), ?_⟩
    refine retB_of_awp tab [] Tryz.func10 rfl rfl rfl (Nat.le_of_ble_eq_true rfl) rfl trivial (fun w0 F0 A io0 => ?_)
    repeat' (first
      | (show awpL _ _ _ _ _; first | refine goL ?_ | (refine gdLG ?_ ?_ <;> intro _ <;> try (exfalso; omega)))
      | (show awp _ _ _ _; first | refine goA ?_ | (refine cdG ?_ ?_ <;> intro _ <;> try (exfalso; omega)))
      | (show andThen _ _ _ _; refine goN ?_)
      | (show inBlock _ _ _ _; refine goB ?_)
      | (show retPost _ _ _ _ _; refine finG ?_)
      | (show retPostB _ _ _ _ _ _; first | refine finB rfl rfl ?_ ?_ | refine finBT rfl rfl rfl ?_ ?_))
    all_goals first | exact leVT | exact ⟨rfl, trivial⟩
  · refine ⟨l, by omega, hx, ?_⟩
    refine retB_of_awp tab [] Tryz.func10 rfl rfl rfl (Nat.le_of_ble_eq_true rfl) rfl trivial (fun w0 F0 A io0 => ?_)
    repeat' (first
      | (show awpL _ _ _ _ _; first | refine goL ?_ | (refine gdLG ?_ ?_ <;> intro _ <;> try (exfalso; omega)))
      | (show awp _ _ _ _; first | refine goA ?_ | (refine cdG ?_ ?_ <;> intro _ <;> try (exfalso; omega)))
      | (show andThen _ _ _ _; refine goN ?_)
      | (show inBlock _ _ _ _; refine goB ?_)
      | (show retPost _ _ _ _ _; refine finG ?_)
      | (show retPostB _ _ _ _ _ _; first | refine finB rfl rfl ?_ ?_ | refine finBT rfl rfl rfl ?_ ?_))
    all_goals first | exact leVT | exact ⟨rfl, trivial⟩
theorem ref03_FractionQ (a b : Int) (ha : -1000000 ≤ a) (ha2 : a < 1000000) (hb : 0 < b) (hb2 : b < 1000000) : Ret Tryz.prog 27 [.int .i64 a, .int .i64 b] (· = qD (Rat.divInt a b)) := ref03_Fraction a b (by omega) (by omega) (by omega) (by omega) (by omega)
theorem ok_fracW {a b : Int} (hb : b ≠ 0) (ha : a.natAbs < 18446744073709551616) (hb2 : b.natAbs < 18446744073709551616) : okQ 10 (Rat.divInt a b) :=
  okQ_divInt hb (Nat.lt_of_le_of_lt (u64_len ha) (by decide)) (Nat.lt_of_le_of_lt (u64_len hb2) (by decide))
theorem ref03_FromIntW (v : Int) (h1 : -9223372036854775808 ≤ v) (h2 : v < 9223372036854775808) : Ret Tryz.prog 17 [.int .i64 v] (· = qD (v : Rat)) := by
  have := ref03_FromInt v h1 h2
  rw [← rq_int] at this
  exact this
theorem ok_intW {v : Int} (h : v.natAbs < 18446744073709551616) : okQ 10 (v : Rat) := by
  refine ⟨?_, ?_⟩
  · rw [Rat.num_intCast]; exact Nat.lt_of_le_of_lt (u64_len h) (by decide)
  · rw [Rat.den_intCast, limbs_one]; decide
theorem world_Rat (l : List Int) (a : Nat) (hl : l.length ≤ 400) (hx : I64 l) (ha : a ≤ l.length) : ∃ (q : Rat) (b : Nat), okQ 10 q ∧ b ≤ l.length ∧ RetB Tryz.prog 26 [.ptr 1000 0] (lookB [(1000, tp l a)]) (.d (qD q)) (lookB [(1000, tp l b)]) := by
  obtain ⟨r, b, r1, r2, r3, h1⟩ := world_Next l a 8 hl hx ha (by decide) (by decide)
  by_cases c1 : r = 6
  · subst c1
    obtain ⟨s, c, s1, s2, s3, h2⟩ := world_Next l b 13 hl hx r3 (by decide) (by decide)
    obtain ⟨t, d, t1, t2, t3, h3⟩ := world_Next l c 6 hl hx s3 (by decide) (by decide)
    have f := ref03_FractionQ (s - 6) (1 + t) (by omega) (by omega) (by omega) (by omega)
    refine ⟨_, d, ok_fracW (a := s - 6) (b := 1 + t) (by omega) (by omega) (by omega), t3, ?_⟩
    refine retB_of_awp tab [1000] Tryz.func26 rfl rfl rfl (Nat.le_of_ble_eq_true rfl) rfl ⟨Nat.le_refl _, trivial⟩ (fun w0 F0 A io0 => ?_)
    repeat' (first
      | (show awpL _ _ _ _ _; first | refine goL ?_ | refine clB 18 [] (h1) tt rfl rfl rfl rfl rfl rfl leVT allB ?_ | refine clB 18 [] (h2) tt rfl rfl rfl rfl rfl rfl leVT allB ?_ | refine clB 18 [] (h3) tt rfl rfl rfl rfl rfl rfl leVT allB ?_ | refine cl 27 tt rfl rfl rfl (hr := f) (k := ?_) | (refine gdLG ?_ ?_ <;> intro _ <;> try (exfalso; omega)))
      | (show awp _ _ _ _; first | refine goA ?_ | (refine cdG ?_ ?_ <;> intro _ <;> try (exfalso; omega)))
      | (show andThen _ _ _ _; refine goN ?_)
      | (show inBlock _ _ _ _; refine goB ?_)
      | (show retPost _ _ _ _ _; refine finG ?_)
      | (show retPostB _ _ _ _ _ _; first | refine finB rfl rfl ?_ ?_ | refine finBT rfl rfl rfl ?_ ?_))
    all_goals first | exact leVT | exact ⟨rfl, trivial⟩
  by_cases c2 : r = 7
  · subst c2
    obtain ⟨s, c, s1, s2, s3, h2⟩ := world_Next l b 2001 hl hx r3 (by decide) (by decide)
    obtain ⟨t, d, t1, t3, h3⟩ := world_Pick l c [1, 1, 7] hl hx s3 (by decide) (by decide)
    have ht : 0 < t ∧ t < 8 := by simp at t1; omega
    have f := ref03_FractionQ (s - 1000) t (by omega) (by omega) (by omega) (by omega)
    refine ⟨_, d, ok_fracW (a := s - 1000) (b := t) (by omega) (by omega) (by omega), t3, ?_⟩
    refine retB_of_awp tab [1000] Tryz.func26 rfl rfl rfl (Nat.le_of_ble_eq_true rfl) rfl ⟨Nat.le_refl _, trivial⟩ (fun w0 F0 A io0 => ?_)
    repeat' (first
      | (show awpL _ _ _ _ _; first | refine goL ?_ | refine clB 18 [] (h1) tt rfl rfl rfl rfl rfl rfl leVT allB ?_ | refine clB 18 [] (h2) tt rfl rfl rfl rfl rfl rfl leVT allB ?_ | refine clB 13 [] (h3) tt rfl rfl rfl rfl rfl rfl leVT allB ?_ | refine cl 27 tt rfl rfl rfl (hr := f) (k := ?_) | (refine gdLG ?_ ?_ <;> intro _ <;> try (exfalso; omega)))
      | (show awp _ _ _ _; first | refine goA ?_ | (refine cdG ?_ ?_ <;> intro _ <;> try (exfalso; omega)))
      | (show andThen _ _ _ _; refine goN ?_)
      | (show inBlock _ _ _ _; refine goB ?_)
      | (show retPost _ _ _ _ _; refine finG ?_)
      | (show retPostB _ _ _ _ _ _; first | refine finB rfl rfl ?_ ?_ | refine finBT rfl rfl rfl ?_ ?_))
    all_goals first | exact leVT | exact ⟨rfl, trivial⟩
  · obtain ⟨s, c, s1, s2, s3, h2⟩ := world_Next l b 9 hl hx r3 (by decide) (by decide)
    have f := ref03_FromIntW (s - 4) (by omega) (by omega)
    refine ⟨_, c, ok_intW (v := s - 4) (by omega), s3, ?_⟩
    refine retB_of_awp tab [1000] Tryz.func26 rfl rfl rfl (Nat.le_of_ble_eq_true rfl) rfl ⟨Nat.le_refl _, trivial⟩ (fun w0 F0 A io0 => ?_)
    repeat' (first
      | (show awpL _ _ _ _ _; first | refine goL ?_ | refine clB 18 [] (h1) tt rfl rfl rfl rfl rfl rfl leVT allB ?_ | refine clB 18 [] (h2) tt rfl rfl rfl rfl rfl rfl leVT allB ?_ | refine cl 17 tt rfl rfl rfl (hr := f) (k := ?_) | (refine gdLG ?_ ?_ <;> intro _ <;> try (exfalso; omega)))
      | (show awp _ _ _ _; first | refine goA ?_ | (refine cdG ?_ ?_ <;> intro _ <;> try (exfalso; omega)))
      | (show andThen _ _ _ _; refine goN ?_)
      | (show inBlock _ _ _ _; refine goB ?_)
      | (show retPost _ _ _ _ _; refine finG ?_)
      | (show retPostB _ _ _ _ _ _; first | refine finB rfl rfl ?_ ?_ | refine finBT rfl rfl rfl ?_ ?_))
    all_goals first | exact leVT | exact ⟨rfl, trivial⟩
end Go.Proofs.YtoppaphffnojdaaGreat

/-
  What an argument of a law holds, as a value of a plain type: whatever can be read of it, it stands for. Conditions: the type's shape is as its code says (a closed fact).
-/
set_option linter.unusedSimpArgs false
set_option linter.unusedVariables false
set_option linter.unusedSectionVars false
namespace Go.Vw
open Go.RowKit Go.ChangeShapes Go.WideShapes

mutual
inductive Ty where
  | int (k : IntKind)
  | bool
  | str
  | struct (fs : Tys)
  | slice (e : Ty)
inductive Tys where
  | nil
  | cons (t : Ty) (ts : Tys)
end
mutual
def Ty.Val : Ty → Type
  | .int _ => Int
  | .bool => Bool
  | .str => List UInt8
  | .struct fs => fs.Val
  | .slice e => List e.Val
def Tys.Val : Tys → Type
  | .nil => Unit
  | .cons t ts => t.Val × ts.Val
end
mutual
def Ty.zero : (t : Ty) → t.Val
  | .int _ => (0 : Int)
  | .bool => false
  | .str => ([] : List UInt8)
  | .struct fs => fs.zero
  | .slice e => ([] : List e.Val)
def Tys.zero : (ts : Tys) → ts.Val
  | .nil => ()
  | .cons t ts => (t.zero, ts.zero)
end
mutual
def Ty.width : Ty → Nat
  | .int _ => 1
  | .bool => 1
  | .str => 1
  | .struct fs => fs.width
  | .slice _ => 1
def Tys.width : Tys → Nat
  | .nil => 0
  | .cons t ts => t.width + ts.width
end
mutual
def Ty.cells : (t : Ty) → t.Val → List D
  | .int k, (n : Int) => [.int k n]
  | .bool, (b : Bool) => [.bool b]
  | .str, (s : List UInt8) => [.str s]
  | .struct fs, v => fs.cells v
  | .slice e, (l : List e.Val) => [.sl e.width e.cells e.zero l]
def Tys.cells : (ts : Tys) → ts.Val → List D
  | .nil, _ => []
  | .cons t ts, v => t.cells v.1 ++ ts.cells v.2
end
mutual
def Ty.wf : (t : Ty) → t.Val → Prop
  | .int k, (n : Int) => (Lit.int k n).wf = true
  | .bool, _ => True
  | .str, (s : List UInt8) => s.length ≤ maxLen
  | .struct fs, v => fs.wf v
  | .slice e, (l : List e.Val) => l.length ≤ maxLen ∧ ∀ a ∈ l, e.wf a
def Tys.wf : (ts : Tys) → ts.Val → Prop
  | .nil, _ => True
  | .cons t ts, v => t.wf v.1 ∧ ts.wf v.2
end
mutual
def Ty.ok (P : Program) : Ty → TypeId → Bool
  | .int k, t => match P.underlying t with | some (.int k') => decide (k' = k) | _ => false
  | .bool, t => match P.underlying t with | some .bool => true | _ => false
  | .str, t => match P.underlying t with | some .string => true | _ => false
  | .struct fs, t => match P.underlying t with | some (.struct fields) => Nat.beq (P.cellsOf t) fs.width && Tys.ok P fs fields.toList 0 | _ => false
  | .slice e, t => match P.underlying t with | some (.slice te) => Nat.beq (P.cellsOf te) e.width && Nat.blt 0 e.width && Ty.ok P e te | _ => false
def Tys.ok (P : Program) : Tys → List Field → Nat → Bool
  | .nil, fs, _ => match fs with | [] => true | _ :: _ => false
  | .cons t ts, fs, off => match fs with
    | f :: fs => Nat.beq f.offset off && Nat.beq (P.cellsOf f.type) t.width && Ty.ok P t f.type && Tys.ok P ts fs (off + t.width)
    | [] => false
end
mutual
theorem Ty.cells_len : ∀ (t : Ty) (v : t.Val), (t.cells v).length = t.width
  | .int k, v => rfl
  | .bool, v => rfl
  | .str, v => rfl
  | .struct fs, v => by simp only [Ty.cells, Ty.width]; exact Tys.cells_len fs v
  | .slice e, v => rfl
theorem Tys.cells_len : ∀ (ts : Tys) (v : ts.Val), (ts.cells v).length = ts.width
  | .nil, v => rfl
  | .cons t ts, v => by simp only [Tys.cells, Tys.width, List.length_append]; rw [Ty.cells_len t v.1, Tys.cells_len ts v.2]
end

def allF (w : World) : Nat → Prop := fun b => b < w.heap.size
section
variable {H : Type} {enc : TypeId × Value → H} {P : Program} {w : World} {held : Bool}

theorem dra_one {F : Nat → Prop} {g : Nat → Option Value} {off : Nat} {x : D} {v : Value} (h0 : g off = some v) (h1 : v.oneCell' = true) (h : DR F w x v) : DRA F w g off [x] := by
  simp only [DRA]; exact ⟨⟨v, h0, h1, h⟩, trivial⟩
theorem dra_app {F : Nat → Prop} {g : Nat → Option Value} {xs ys : List D} {off : Nat} (h : DRA F w g off xs) (k : DRA F w g (off + xs.length) ys) : DRA F w g off (xs ++ ys) := by
  rw [DRA_iff] at h k ⊢
  intro i c hi
  by_cases hl : i < xs.length
  · rw [List.getElem?_append_left hl] at hi; exact h i c hi
  · rw [List.getElem?_append_right (by omega)] at hi
    obtain ⟨v, h1, h2⟩ := k _ c hi
    exact ⟨v, by rw [← h1]; congr 1; omega, h2⟩
theorem row_of_cells {a : Addr} {n : Nat} {cs : List Value} (h : w.cells? 0 a n = some cs) (hn : 0 < n) : ∃ b o arr ty fz, a = ⟨b, o, none⟩ ∧ w.heap[b]? = some (.cells arr ty fz) := by
  obtain ⟨_, hl, hc⟩ := World.cells?_some h
  have h0 := hc 0 hn
  rw [List.getElem?_eq_getElem (by omega)] at h0
  obtain ⟨b, o, sp⟩ := a
  unfold World.cell? at h0
  split at h0
  · rename_i c ty fz hh
    split at h0
    · cases h0
    · rename_i hs
      cases sp with
      | none => exact ⟨b, o, c, ty, fz, rfl, hh⟩
      | some s => exact absurd rfl hs
  · cases h0

mutual
theorem Ty.reads : ∀ (ty : Ty) (fuel : Nat) (t : TypeId) (cs : List Value) (x : DataW H × List MemPlace), ty.ok P t = true → DataW.trod enc P w 0 (fun _ => true) held fuel t cs = some x → ∃ v : ty.Val, ty.wf v ∧ cs.length = ty.width ∧ DRA (allF w) w (fun i => cs[i]?) 0 (ty.cells v)
  | .int k, fuel, t, cs, x, hok, h => by
    simp only [Ty.ok] at hok
    split at hok
    · rename_i k' hu
      have hk := of_decide_eq_true hok
      subst hk
      obtain ⟨n, rfl, _, hw⟩ := DataW.trod_int hu h
      exact ⟨(n : Int), hw, rfl, dra_one rfl rfl (by simp only [DR])⟩
    · cases hok
  | .bool, fuel, t, cs, x, hok, h => by
    simp only [Ty.ok] at hok
    split at hok
    · rename_i hu
      obtain ⟨b, rfl, _⟩ := DataW.trod_bool hu h
      exact ⟨(b : Bool), trivial, rfl, dra_one rfl rfl (by simp only [DR])⟩
    · cases hok
  | .str, fuel, t, cs, x, hok, h => by
    simp only [Ty.ok] at hok
    split at hok
    · rename_i hu
      obtain ⟨s, rfl, _, hs⟩ := DataW.trod_string hu h
      refine ⟨(s.data.toList : List UInt8), ?_, rfl, dra_one rfl rfl (by simp only [DR])⟩
      simp only [Ty.wf]
      rw [Array.length_toList]; exact hs
    · cases hok
  | .struct fs, fuel, t, cs, x, hok, h => by
    simp only [Ty.ok] at hok
    split at hok
    · rename_i fields hu
      simp only [Bool.and_eq_true] at hok
      obtain ⟨hw, hf⟩ := hok
      have hw := Nat.eq_of_beq_eq_true hw
      obtain ⟨xs, n, rfl, _, hl, hxl, hx⟩ := DataW.trod_struct hu h
      have hall : ∀ (i : Nat) (f : Field), fields.toList[i]? = some f → ∃ y, DataW.trod enc P w 0 (fun _ => true) held n f.type ((cs.drop f.offset).take (P.cellsOf f.type)) = some y := fun i f hi => by
        rw [Array.getElem?_toList] at hi
        have hlt := (Array.getElem?_eq_some_iff.1 hi).1
        have := hx i f hi
        rw [List.getElem?_eq_getElem (by omega)] at this
        exact ⟨_, this⟩
      obtain ⟨v, h1, h2⟩ := Tys.reads fs n fields.toList 0 cs hf hall
      exact ⟨v, h1, by rw [hl, hw]; rfl, h2⟩
    · cases hok
  | .slice e, fuel, t, cs, x, hok, h => by
    simp only [Ty.ok] at hok
    split at hok
    · rename_i te hu
      simp only [Bool.and_eq_true, Nat.blt_eq] at hok
      obtain ⟨⟨hw, hw0⟩, he⟩ := hok
      have hw := Nat.eq_of_beq_eq_true hw
      rcases Go.Deep.open_slice hu h with ⟨rfl, _⟩ | ⟨a, len, cap, m, n, Dx, Pl, rfl, hb, hlc, hcm, hm, _, hi⟩
      · exact ⟨([] : List e.Val), ⟨by simp, fun a h => by simp at h⟩, rfl, dra_one rfl rfl (by simp only [DR]; exact .inl ⟨⟨_, _, rfl⟩, trivial⟩)⟩
      · have hlm : len ≤ m := by rw [hm]; split <;> omega
        have each : ∀ i, i < len → ∃ v : e.Val, e.wf v ∧ ∃ cs', w.cells? 0 (a.add (i * P.cellsOf te)) (P.cellsOf te) = some cs' ∧ DRA (allF w) w (fun j => cs'[j]?) 0 (e.cells v) := fun i hlt => by
          obtain ⟨cs', h1, h2⟩ := hi i (by omega)
          obtain ⟨v, q1, q2, q3⟩ := Ty.reads e n te cs' _ he h2
          exact ⟨v, q1, cs', h1, q3⟩
        have : ∃ V : Nat → e.Val, ∀ i, i < len → (e.wf (V i) ∧ ∃ cs', w.cells? 0 (a.add (i * P.cellsOf te)) (P.cellsOf te) = some cs' ∧ DRA (allF w) w (fun j => cs'[j]?) 0 (e.cells (V i))) :=
          ⟨fun i => if h : i < len then (each i h).choose else e.zero, fun i h => by
            simp only [h, dif_pos]
            exact (each i h).choose_spec⟩
        obtain ⟨V, hV⟩ := this
        refine ⟨((List.range len).map V : List e.Val), ⟨by simp; omega, fun v hv => ?_⟩, rfl, dra_one rfl rfl ?_⟩
        · simp only [List.mem_map, List.mem_range] at hv
          obtain ⟨i, hlt, rfl⟩ := hv
          exact (hV i hlt).1
        simp only [DR]
        simp only [if_true] at hm
        by_cases hc0 : cap = 0
        · have hl0 : len = 0 := by omega
          subst hl0 hc0
          exact .inl ⟨⟨_, _, rfl⟩, by simp⟩
        · obtain ⟨cs0, h0, _⟩ := hi 0 (by omega)
          rw [Nat.zero_mul, show a.add 0 = a by simp [Addr.add]] at h0
          obtain ⟨b, o, arr, ty, fz, ha, hh⟩ := row_of_cells h0 (by omega)
          have ha' : a = ⟨b, a.off, none⟩ := by subst ha; rfl
          refine .inr ⟨b, a.off, cap, arr, ty, fz, by rw [ha']; simp, by simpa using hlc, lt_of_heap hh, hh, fun i v hv => ?_⟩
          have hlt : i < len := by have := (List.getElem?_eq_some_iff.1 hv).1; simpa using this
          simp [hlt] at hv
          subst hv
          obtain ⟨_, cs', h1, h2⟩ := hV i hlt
          refine ⟨Ty.cells_len _ _, ?_⟩
          obtain ⟨_, hcl, hcc⟩ := World.cells?_some h1
          rw [DRA_iff] at h2 ⊢
          intro j c hj
          obtain ⟨u, p1, p2⟩ := h2 j c hj
          have hjl := (List.getElem?_eq_some_iff.1 hj).1
          rw [Ty.cells_len] at hjl
          refine ⟨u, ?_, p2⟩
          have h3 := hcc j (by omega)
          rw [Nat.zero_add] at p1
          rw [p1, ha', add_plain, add_plain] at h3
          simp only [World.cell?, hh] at h3
          rw [← hw]
          simpa using h3
    · cases hok
theorem Tys.reads : ∀ (ts : Tys) (n : Nat) (fields : List Field) (off : Nat) (cs : List Value), ts.ok P fields off = true → (∀ (i : Nat) (f : Field), fields[i]? = some f → ∃ y, DataW.trod enc P w 0 (fun _ => true) held n f.type ((cs.drop f.offset).take (P.cellsOf f.type)) = some y) → ∃ v : ts.Val, ts.wf v ∧ DRA (allF w) w (fun i => cs[i]?) off (ts.cells v)
  | .nil, n, fields, off, cs, hok, h => ⟨(), trivial, by simp only [Tys.cells, DRA]⟩
  | .cons t ts, n, fields, off, cs, hok, h => by
    simp only [Tys.ok] at hok
    split at hok
    · rename_i f fs
      simp only [Bool.and_eq_true] at hok
      obtain ⟨⟨⟨h1, h2⟩, h3⟩, h4⟩ := hok
      have h1 := Nat.eq_of_beq_eq_true h1
      have h2 := Nat.eq_of_beq_eq_true h2
      obtain ⟨y, hy⟩ := h 0 f rfl
      obtain ⟨v, q1, q2, q3⟩ := Ty.reads t n f.type _ y h3 hy
      obtain ⟨v2, r1, r2⟩ := Tys.reads ts n fs (off + t.width) cs h4 (fun i g hg => h (i + 1) g (by simpa using hg))
      refine ⟨(v, v2), ⟨q1, r1⟩, ?_⟩
      simp only [Tys.cells]
      refine dra_app ?_ (by rw [Ty.cells_len]; exact r2)
      rw [DRA_iff] at q3 ⊢
      intro i c hi
      obtain ⟨u, p1, p2⟩ := q3 i c hi
      have hlt := (List.getElem?_eq_some_iff.1 hi).1
      rw [Ty.cells_len] at hlt
      refine ⟨u, ?_, p2⟩
      rw [Nat.zero_add, List.getElem?_take, if_pos (by omega), List.getElem?_drop, h1] at p1
      exact p1
    · cases hok
end

def Ty.top : (t : Ty) → t.Val → D
  | .int k, (n : Int) => .int k n
  | .bool, (b : Bool) => .bool b
  | .str, (s : List UInt8) => .str s
  | .struct fs, v => .agg (fs.cells v)
  | .slice e, (l : List e.Val) => .sl e.width e.cells e.zero l
theorem Ty.topReads {r : Reach} {b0 : Nat} : ∀ (ty : Ty) (t : TypeId) (v : Value) (d : DataW H) (ps : List MemPlace), ty.ok P t = true → Value.okWide P w r b0 t v → DataW.Trod enc P w 0 (fun _ => true) held t v d ps → ∃ x : ty.Val, ty.wf x ∧ DR (allF w) w (ty.top x) v := fun ty t v d ps hok hv h => by
  obtain ⟨fuel, h⟩ := h
  obtain ⟨x, h1, h2, h3⟩ := Ty.reads ty fuel t _ _ hok h
  refine ⟨x, h1, ?_⟩
  have one : ∀ (y : D), v.cells.toList = [v] → DRA (allF w) w (fun i => v.cells.toList[i]?) 0 [y] → DR (allF w) w y v := fun y e hd => by
    rw [e] at hd
    simp only [DRA] at hd
    obtain ⟨⟨u, hu, _, hd⟩, _⟩ := hd
    simp at hu; subst hu; exact hd
  cases ty with
  | int k =>
    simp only [Ty.ok] at hok
    split at hok
    · rename_i k' hu
      refine one _ ?_ h3
      cases v <;> first | rfl | (simp [Value.okWide, hu, Cell.okWide, Cell.ok] at hv)
    · cases hok
  | bool =>
    simp only [Ty.ok] at hok
    split at hok
    · rename_i hu
      refine one _ ?_ h3
      cases v <;> first | rfl | (simp [Value.okWide, hu, Cell.okWide, Cell.ok] at hv)
    · cases hok
  | str =>
    simp only [Ty.ok] at hok
    split at hok
    · rename_i hu
      refine one _ ?_ h3
      cases v <;> first | rfl | (simp [Value.okWide, hu, Cell.okWide, Cell.ok] at hv)
    · cases hok
  | struct fs =>
    simp only [Ty.ok] at hok
    split at hok
    · rename_i fields hu
      simp only [Value.okWide, hu] at hv
      obtain ⟨arr, rfl, hs, _⟩ := hv
      simp only [Ty.top, DR]
      refine ⟨arr, rfl, ?_, ?_⟩
      · have hc := Tys.cells_len fs x
        have h2' : arr.size = fs.width := by simpa [Value.cells, Ty.width] using h2
        exact h2'.trans hc.symm
      · rw [DRA_iff] at h3 ⊢
        intro i c hi
        obtain ⟨u, p1, p2⟩ := h3 i c hi
        exact ⟨u, by simpa [Value.cells] using p1, p2⟩
    · cases hok
  | slice e =>
    simp only [Ty.ok] at hok
    split at hok
    · rename_i te hu
      refine one _ ?_ h3
      cases v <;> first | rfl | (simp [Value.okWide, hu, Cell.okWide, Cell.ok] at hv)
    · cases hok

def Tys.tops : (ts : Tys) → ts.Val → List D
  | .nil, _ => []
  | .cons t ts, v => t.top v.1 :: ts.tops v.2
def Tys.oks (P : Program) : Tys → List TypeId → Bool
  | .nil, l => match l with | [] => true | _ :: _ => false
  | .cons t ts, l => match l with | a :: r => Ty.ok P t a && Tys.oks P ts r | [] => false
theorem Tys.tops_len : ∀ (ts : Tys) (l : List TypeId) (v : ts.Val), ts.oks P l = true → (ts.tops v).length = l.length
  | .nil, [], _, _ => rfl
  | .nil, _ :: _, _, h => by simp [Tys.oks] at h
  | .cons t ts, [], _, h => by simp [Tys.oks] at h
  | .cons t ts, a :: r, v, h => by
    simp only [Tys.oks, Bool.and_eq_true] at h
    simp only [Tys.tops, List.length_cons, Tys.tops_len ts r v.2 h.2]
theorem Tys.topsRead {r : Reach} {b0 : Nat} : ∀ (tys : Tys) (ts : List TypeId) (vs : List Value) (ds : List (DataW H)) (ps : List MemPlace), tys.oks P ts = true → (∀ (j : Nat) t v, ts[j]? = some t → vs[j]? = some v → Value.okWide P w r b0 t v) → DataW.TrodAll enc P w 0 (fun _ => true) held ts vs ds ps → ∃ x : tys.Val, tys.wf x ∧ vs.length = ts.length ∧ ∀ g off, (∀ i, g (off + i) = vs[i]?) → DRT (allF w) w g off (tys.tops x)
  | .nil, [], vs, ds, ps, _, _, h => by
    cases vs <;> cases ds <;> first | (exact absurd h id) | exact ⟨(), trivial, rfl, fun g off _ => by simp only [Tys.tops, DRT]⟩
  | .nil, _ :: _, _, _, _, hok, _, _ => by simp [Tys.oks] at hok
  | .cons t ts, [], _, _, _, hok, _, _ => by simp [Tys.oks] at hok
  | .cons t ts, a :: r', vs, ds, ps, hok, hv, h => by
    simp only [Tys.oks, Bool.and_eq_true] at hok
    cases vs with
    | nil => cases ds <;> exact absurd h id
    | cons v vs =>
      cases ds with
      | nil => exact absurd h id
      | cons d ds =>
        obtain ⟨p, q, h1, h2, _⟩ := h
        obtain ⟨x, g1, g2⟩ := Ty.topReads t a v d p hok.1 (hv 0 a v rfl rfl) h1
        obtain ⟨y, k1, k2, k3⟩ := Tys.topsRead ts r' vs ds q hok.2 (fun j t' v' e1 e2 => hv (j + 1) t' v' (by simpa using e1) (by simpa using e2)) h2
        refine ⟨(x, y), ⟨g1, k1⟩, by simp [k2], fun g off hg => ?_⟩
        simp only [Tys.tops, DRT]
        refine ⟨⟨v, by simpa using hg 0, g2⟩, k3 g (off + 1) (fun i => ?_)⟩
        rw [Nat.add_assoc, Nat.add_comm 1 i, hg (i + 1)]; simp
end
end Go.Vw

/-
  From a contract on values of plain types to what a law's row asks of a call. Conditions: closed facts of the program's types.
-/
set_option linter.unusedSimpArgs false
set_option linter.unusedVariables false
namespace Go.Vw
open Go.ChangeShapes Go.WideShapes Go.ChangeAt Go.RowKit

theorem post_below {H : Type} {enc : TypeId × Value → H} {P : Program} {f : Func} {s : ChangeSpec} {apart fresh handsOn again : Bool} {W W' : World} {args : Array Value} {v : Value} {ds gs : List (DataW H)} {before pa pv : List MemPlace}
    (hW : DataW.Whole enc P f.params.toList s.vars apart W args.toList ds gs before)
    (hres : ∀ (b : Nat) (sp : Nat → Bool) (hd : Bool), DataW.TrodAll enc P W' b sp hd f.resultTypes.toList (v.resultList f.resultTypes.size) (s.fn H (ds ++ gs)).results [])
    (hargs : ∀ sp : Nat → Bool, (∀ p ∈ before, sp p.block = true) → DataW.TrodAll enc P W' 0 sp true f.params.toList args.toList (s.fn H (ds ++ gs)).args pa)
    (hvars : ∀ sp : Nat → Bool, (∀ p ∈ before, sp p.block = true) → DataW.TrodVars enc P W' sp s.vars (s.fn H (ds ++ gs)).vars pv)
    (hps : before = pa ++ pv) (hb : Below W.heap.size W W')
    (hok : ∀ (j : Nat) (t : TypeId) (r : Value), f.resultTypes[j]? = some t → (v.resultList f.resultTypes.size)[j]? = some r → Value.okWide P W' .any 0 t r) :
    s.post enc P f apart fresh handsOn again W args v W' := by
  have hlt := hW.lt
  have hin : ∀ p ∈ before, (fun b => decide (b < W.heap.size)) p.block = true := fun p hp => decide_eq_true (hlt p hp)
  obtain ⟨_, _, _, _, _, hz, hn⟩ := id hW
  refine ⟨ds, gs, before, [], pa, pv, hW, hres _ _ _, hargs _ hin, hvars _ hin, hb.frame _, fun _ => ⟨hok, _, _, ([] ++ pa) ++ pv, ⟨[] ++ pa, pv, trodAll_append (hargs _ fun _ _ => rfl) (hres _ _ _), hvars _ fun _ _ => rfl, rfl, fun b off hp => ?_, fun ha => ?_⟩, fun p hp _ => ?_⟩⟩
  · have hp' : MemPlace.cell b off ∈ before := by rw [hps]; simpa using hp
    rw [hb.frozen (hlt _ hp')]
    exact hz b off hp'
  · have := hn ha
    rw [hps] at this
    simpa using this
  · rw [hps]; simpa using hp

theorem trodAll_stays {H : Type} {enc : TypeId × Value → H} {P : Program} {W W' : World} {sp' : Nat → Bool} (hl : laidOutB P = true) : ∀ {ts : List TypeId} {vs : List Value} {ds : List (DataW H)} {ps : List MemPlace}, (ts.all fun t => P.readableRec t && decide (t < P.types.size)) = true → DataW.TrodAll enc P W 0 (fun _ => true) true ts vs ds ps → (∀ p ∈ ps, W.sameAt W' p) → (∀ p ∈ ps, sp' p.block = true) → DataW.TrodAll enc P W' 0 sp' true ts vs ds ps
  | [], [], [], _, _, h, _, _ => h
  | [], _ :: _, _, _, _, h, _, _ => absurd h id
  | [], [], _ :: _, _, _, h, _, _ => absurd h id
  | _ :: _, [], _, _, _, h, _, _ => absurd h id
  | _ :: _, _ :: _, [], _, _, h, _, _ => absurd h id
  | t :: ts, v :: vs, d :: ds, _, ht, ⟨p, q, h1, h2, e⟩, hsame, hs => by
    subst e
    simp only [List.all_cons, Bool.and_eq_true, decide_eq_true_eq] at ht
    exact ⟨p, q, WideElems.Trod_stays hl ht.1.1 ht.1.2 h1 (fun x hx => hsame x (by simp [hx])) (fun x hx => hs x (by simp [hx])), trodAll_stays hl ht.2 h2 (fun x hx => hsame x (by simp [hx])) (fun x hx => hs x (by simp [hx])), rfl⟩

theorem law_contract {P : Program} {f : FuncId} {fn : Func} {s : ChangeSpec} {rt : TypeId} (tys : Tys) (hl : laidOutB P = true) (hok : tys.oks P fn.params.toList = true) (hp : (fn.params.toList.all fun t => P.readableRec t && decide (t < P.types.size)) = true) (hv : s.vars = []) (hr : fn.resultTypes = #[rt]) (hrt : P.underlying rt = some .bool) (hc : ∀ x : tys.Val, tys.wf x → Ret P f (tys.tops x) (· = .bool true))
    (H : Type) (enc : TypeId × Value → H) (hs : ∀ ds : List (DataW H), ds.length = fn.params.toList.length → (s.fn H ds).results = [.lit (.bool true)] ∧ (s.fn H ds).args = ds ∧ (s.fn H ds).vars = [])
    (W : World) (base : Nat) (args : Array Value) (ds gs : List (DataW H)) (before : List MemPlace)
    (hval : ∀ (j : Nat) t v, fn.params[j]? = some t → args[j]? = some v → Value.okWide P W .any base t v)
    (hW : DataW.Whole enc P fn.params.toList s.vars false W args.toList ds gs before) :
    Calls P f args W fun e W' => ∃ v, e = .returned v ∧ s.post enc P fn false true false false W args v W' := by
  have hW' := hW
  have hlt := hW.lt
  obtain ⟨p, q, hA, hV, rfl, hfz, hnd⟩ := hW
  rw [hv] at hV
  obtain ⟨rfl, rfl⟩ := trodVars_none hV
  obtain ⟨x, hx, hlen, hd⟩ := Tys.topsRead tys fn.params.toList args.toList ds p hok (fun j t v h1 h2 => hval j t v (by simpa using h1) (by simpa using h2)) hA
  have hdl : ds.length = fn.params.toList.length := by
    have aux : ∀ (ts : List TypeId) (vs : List Value) (ds : List (DataW H)) (ps : List MemPlace), DataW.TrodAll enc P W 0 (fun _ => true) true ts vs ds ps → ds.length = ts.length := by
      intro ts
      induction ts with
      | nil => intro vs ds ps h; cases vs <;> cases ds <;> first | (exact absurd h id) | rfl
      | cons t ts ih =>
        intro vs ds ps h
        cases vs with
        | nil => cases ds <;> exact absurd h id
        | cons v vs => cases ds with
          | nil => exact absurd h id
          | cons d ds => obtain ⟨_, q, _, h2, _⟩ := h; simp [ih _ _ _ h2]
    exact aux _ _ _ _ hA
  obtain ⟨s1, s2, s3⟩ := hs ds hdl
  have ht := Tys.tops_len tys fn.params.toList x hok
  refine ((hc x hx).run (allF W) W args (fun b h => h) (by rw [ht, ← hlen]; simp) (hd _ 0 (fun i => by simp))).mono fun e W' ⟨v, r, F', he, hr', hb, _, _, hv'⟩ => ?_
  subst he hr'
  simp only [Vw.DR] at hv'
  subst hv'
  refine ⟨_, rfl, post_below (pa := p) (pv := []) hW' ?_ ?_ ?_ rfl hb ?_⟩
  · intro b sp hd'
    simp only [List.append_nil, s1, hr]
    exact trodAll_cons_mk (shut_bool hrt _) trodAll_mk0
  · intro sp hsp
    simp only [List.append_nil, s2]
    exact trodAll_stays hl hp hA (fun y hy => hb.same (hlt y (by simp [hy]))) (fun y hy => hsp y (by simp [hy]))
  · intro sp hsp
    simp only [List.append_nil, s3, hv]
    rfl
  · exact ok_one hr rfl (okWide_bool_mk hrt _)
end Go.Vw

/-
  A law's rational numbers and intervals as they come in. Conditions: as each says.
-/
set_option linter.unusedVariables false
set_option linter.unusedSimpArgs false
namespace Go.Vw
abbrev tU : Ty := .slice (.int .u32)
abbrev tInt : Ty := .struct (.cons .bool (.cons tU .nil))
abbrev tRat : Ty := .struct (.cons tInt (.cons tU .nil))
abbrev tItv : Ty := .struct (.cons tRat (.cons tRat .nil))
def toN (l : List Int) : List Nat := l.map Int.toNat
theorem toN_len (l : List Int) : (toN l).length = l.length := List.length_map ..
theorem u32_wf {z : Int} (h : (Lit.int .u32 z).wf = true) : 0 ≤ z ∧ z < 4294967296 := by
  simp [Lit.wf, IntKind.min, IntKind.max, IntKind.signed, IntKind.bits] at h
  omega
theorem leU {l : List Int} (h : ∀ z ∈ l, (Lit.int .u32 z).wf = true) : LeD (.sl 1 (Ty.int .u32).cells (0 : Int) l) (u32s (toN l)) := by
  refine LeD.sl (toN_len l).symm fun i (a : Int) b (ha : (l[i]? : Option Int) = some a) hb => ⟨rfl, ?_⟩
  have hm : a ∈ l := List.mem_of_getElem? ha
  have hw := u32_wf (h a hm)
  unfold toN at hb
  rw [List.getElem?_map, ha] at hb
  simp only [Option.map_some, Option.some.injEq] at hb
  subst hb
  exact leN hw.1
theorem wf_toN {l : List Int} (h : ∀ z ∈ l, (Lit.int .u32 z).wf = true) : WF (toN l) := by
  intro x hx
  unfold toN at hx
  obtain ⟨z, hz, rfl⟩ := List.mem_map.1 hx
  have := u32_wf (h z hz)
  show z.toNat < 4294967296
  omega
abbrev vRat : Type := (Bool × List Int × Unit) × List Int × Unit
abbrev vItv : Type := vRat × vRat × Unit
def toR (x : vRat) : R3 := (x.1.1, toN x.1.2.1, toN x.2.1)
def wfRat (x : vRat) : Prop := (x.1.2.1.length ≤ maxLen ∧ ∀ z ∈ x.1.2.1, (Lit.int .u32 z).wf = true) ∧ (x.2.1.length ≤ maxLen ∧ ∀ z ∈ x.2.1, (Lit.int .u32 z).wf = true)
def wfItv (x : vItv) : Prop := wfRat x.1 ∧ wfRat x.2.1
theorem wfRat_of {x : vRat} (h : Ty.wf tRat x) : wfRat x := ⟨h.1.2.1, h.2.1⟩
theorem leRat {x : vRat} (h : wfRat x) : LeL (Ty.cells tRat x) (rC (toR x)) :=
  LeL.cons (LeD.refl _) (LeL.cons (leU h.1.2) (LeL.cons (leU h.2.2) LeL.nil))
theorem leRatD {x : vRat} (h : wfRat x) : LeD (Ty.top tRat x) (rD (toR x)) := LeD.agg (leRat h)
structure RawR (r : R3) : Prop where
  wm : WF r.2.1
  wd : WF r.2.2
  lm : r.2.1.length ≤ 9223372036854775807
  ld : r.2.2.length ≤ 9223372036854775807
def lightR (r : R3) : Bool := decide (r.2.1.length ≤ 8) && decide (r.2.2.length ≤ 8)
theorem RawR.light {r : R3} (h : RawR r) (hl : lightR r = true) : RatOk r 9 := by
  unfold lightR at hl
  rw [Bool.and_eq_true, decide_eq_true_eq, decide_eq_true_eq] at hl
  exact ⟨h.wm, h.wd, Nat.lt_succ_of_le hl.1, Nat.lt_succ_of_le hl.2⟩
theorem rawR {x : vRat} (h : wfRat x) : RawR (toR x) :=
  ⟨wf_toN h.1.2, wf_toN h.2.2, by show (toN _).length ≤ _; rw [toN_len]; exact h.1.1, by show (toN _).length ≤ _; rw [toN_len]; exact h.2.1⟩
def loR (x : vItv) : R3 := toR x.1
def hiR (x : vItv) : R3 := toR x.2.1
theorem i64_wf {z : Int} (h : (Lit.int .i64 z).wf = true) : -9223372036854775808 ≤ z ∧ z < 9223372036854775808 := by
  simp [Lit.wf, IntKind.min, IntKind.max, IntKind.signed, IntKind.bits] at h
  omega
def toRs (l : List vRat) : List R3 := l.map toR
theorem leRatsD {l : List vRat} (h : Ty.wf (.slice tRat) l) : LeD (Ty.top (.slice tRat) l) (rsD (toRs l)) := by
  refine LeD.sl (List.length_map ..).symm fun i (a : vRat) b (ha : (l[i]? : Option vRat) = some a) hb => ⟨rfl, ?_⟩
  have hm : a ∈ l := List.mem_of_getElem? ha
  unfold toRs at hb
  rw [List.getElem?_map, ha] at hb
  have e : toR a = b := Option.some.inj hb
  subst e
  exact leRat (wfRat_of (h.2 a hm))
theorem rawRs {l : List vRat} (h : Ty.wf (.slice tRat) l) : ∀ r ∈ toRs l, RawR r := by
  intro r hr
  unfold toRs at hr
  obtain ⟨a, ha, rfl⟩ := List.mem_map.1 hr
  exact rawR (wfRat_of (h.2 a ha))
theorem lenRs {l : List vRat} (h : Ty.wf (.slice tRat) l) : (toRs l).length ≤ 9223372036854775807 := by
  unfold toRs
  rw [List.length_map]; exact h.1
end Go.Vw

set_option linter.unusedVariables false
set_option linter.unusedSimpArgs false
set_option maxHeartbeats 4000000
namespace Go.Proofs.YtoppaphffnojdaaGreat
open Go.Vw
attribute [local irreducible] awp awpL awpR Int.decLt Int.decLe Int.instDecidableEq

theorem integer_ToIntN (n : Nat) (h : n < 9223372036854775808) : Ret Tryz.prog 34 [zD (n : Int)] (· = .tup [.int .i64 n, .bool true]) := by
  have ln := u64_len (v := n) (by omega)
  have hv := integer_valueZ (n : Int) (by rw [Int.natAbs_natCast]; omega)
  rw [zD_nat] at hv ⊢
  have hu := natural_UintN n (by omega)
  rw [if_pos (by omega)] at hu
  refine ret_of_awp tab Tryz.func34 rfl rfl (Nat.le_of_ble_eq_true rfl) (fun w0 F0 => ?_)
  repeat' (first
    | (show awpL _ _ _ _ _; first | refine goL ?_ | refine cl 69 tt rfl rfl rfl (hr := hv) (k := ?_) | refine cl 70 tt rfl rfl rfl (hr := hu) (k := ?_) | (refine gdLG ?_ ?_ <;> intro _ <;> try (exfalso; omega)))
    | (show awp _ _ _ _; first | refine goA ?_ | (refine cdG ?_ ?_ <;> intro _ <;> try (exfalso; omega)))
    | (show andThen _ _ _ _; refine goN ?_)
    | (show inBlock _ _ _ _; refine goB ?_)
    | (show retPost _ _ _ _ _; refine finG ?_))
  rfl
theorem ref01_UintN (n : Nat) (h : n < 18446744073709551616) : Ret Tryz.prog 79 [u32s (limbs n)] (· = .tup [.int .u64 n, .bool true]) := by
  have ln := u64_len h
  have ht := ref01_TakeN n (by omega)
  have vl := val_limbs n
  have wl := wf_limbs n
  generalize limbs n = p at *
  refine ret_of_awp tab Tryz.func79 rfl rfl (Nat.le_of_ble_eq_true rfl) (fun w0 F0 => ?_)
  repeat' (first
    | (show awpL _ _ _ _ _; first | refine goL ?_ | refine cl 122 tt rfl rfl rfl (hr := ht) (k := ?_) | (refine gdLG ?_ ?_ <;> intro _ <;> try (exfalso; omega)))
    | (show awp _ _ _ _; first | refine goA ?_ | (refine cdG ?_ ?_ <;> intro _ <;> try (exfalso; omega)))
    | (show andThen _ _ _ _; refine goN ?_)
    | (show inBlock _ _ _ _; refine goB ?_)
    | (show retPost _ _ _ _ _; refine finG ?_))
  refine awp_loop1 (fun (j : Nat) => ([(0, .d (u32s p)), (4, .d (.int .u64 (val (p.drop j)))), (5, .d (.int .i64 ((j : Int) - 1)))], [])) (fun j => j ≤ p.length) (fun j => j) p.length (Nat.le_refl _) ⟨rfl, by rw [List.drop_length]; rfl, rfl, rfl⟩ trivial (fun j hj => ?_)
  by_cases hin : 0 < j
  · obtain ⟨i, rfl⟩ : ∃ i, j = i + 1 := ⟨j - 1, by omega⟩
    have gp := wl.getD i
    rw [B_val] at gp
    have hds : p.drop i = p.getD i 0 :: p.drop (i + 1) := by
      rw [List.drop_eq_getElem_cons (show i < p.length by omega), List.getD_eq_getElem?_getD, List.getElem?_eq_getElem (show i < p.length by omega)]; rfl
    have hv : val (p.drop (i + 1)) < 4294967296 := by
      have h1 := val_lt (wl.drop (i + 1))
      have h2 : (p.drop (i + 1)).length ≤ 1 := by simp; omega
      have h3 := Nat.pow_le_pow_right (show 0 < B by decide) h2
      rw [Nat.pow_one] at h3
      exact Nat.lt_of_lt_of_le h1 h3
    have hor := or_two (a := val (p.drop (i + 1))) gp
    have e1 : ((((i + 1 : Nat) : Int)) - 1).toNat = i := by omega
    repeat' (first
      | (show awpL _ _ _ _ _; first | refine goL ?_ | (refine gdLG ?_ ?_ <;> intro _ <;> try (exfalso; omega)))
      | (show awp _ _ _ _; first | refine goA ?_ | (refine cdG ?_ ?_ <;> intro _ <;> try (exfalso; omega)))
      | (show andThen _ _ _ _; refine goN ?_)
      | (show inBlock _ _ _ _; refine goB ?_)
      | (show retPost _ _ _ _ _; refine finG ?_))
    refine ⟨i, by omega, by omega, ⟨rfl, iv ?_, iv (by omega), rfl⟩, trivial⟩
    rw [hds, val, e1, Nat.or_comm, Int.emod_eq_of_lt (by omega) (by omega), hor]
  · have : j = 0 := by omega
    subst this
    rw [List.drop_zero, vl]
    repeat' (first
      | (show awpL _ _ _ _ _; first | refine goL ?_ | (refine gdLG ?_ ?_ <;> intro _ <;> try (exfalso; omega)))
      | (show awp _ _ _ _; first | refine goA ?_ | (refine cdG ?_ ?_ <;> intro _ <;> try (exfalso; omega)))
      | (show andThen _ _ _ _; refine goN ?_)
      | (show inBlock _ _ _ _; refine goB ?_)
      | (show retPost _ _ _ _ _; refine finG ?_))
    rfl
end Go.Proofs.YtoppaphffnojdaaGreat

/-
  The cell of a number between two others. Conditions: as each says.
-/
set_option linter.unusedVariables false
set_option linter.unusedSimpArgs false
namespace Go.Vw
def okP (v lo hi : Rat) (c : Int) : Bool := decide (lo < hi) && decide (1 ≤ c) && decide (lo ≤ v) && decide (v ≤ hi)
def cellZ (v lo hi : Rat) (c : Int) : Int := min ((v - lo) / (hi - lo) * c).floor (c - 1)
theorem cell_comm (v lo hi : Rat) (c : Int) : (v - lo) * c / (hi - lo) = (v - lo) / (hi - lo) * c := by
  rw [Rat.div_def, Rat.div_def, Rat.mul_assoc, Rat.mul_assoc, Rat.mul_comm (c : Rat)]
theorem frac_bounds {w d : Rat} (hd : 0 < d) (h0 : 0 ≤ w) (h1 : w ≤ d) : 0 ≤ w / d ∧ w / d ≤ 1 ∧ (w < d → w / d < 1) := by
  have e : w / d * d = w := div_mul_cancel' (Rat.ne_of_gt hd)
  refine ⟨?_, ?_, fun h => ?_⟩
  · refine Rat.le_of_mul_le_mul_right (c := d) ?_ hd
    rw [e, Rat.zero_mul]; exact h0
  · refine Rat.le_of_mul_le_mul_right (c := d) ?_ hd
    rw [e, Rat.one_mul]; exact h1
  · refine Rat.lt_of_mul_lt_mul_right (c := d) ?_ (Rat.le_of_lt hd)
    rw [e, Rat.one_mul]; exact h
theorem cell_floor {v lo hi : Rat} {c : Int} (h : lo < hi) (hc : 1 ≤ c) (h1 : lo ≤ v) (h2 : v ≤ hi) : 0 ≤ ((v - lo) / (hi - lo) * c).floor ∧ ((v - lo) / (hi - lo) * c).floor ≤ c ∧ (v < hi → ((v - lo) / (hi - lo) * c).floor < c) := by
  have hb := frac_bounds (w := v - lo) (d := hi - lo) (by grind) (by grind) (by grind)
  have hc0 : (0 : Rat) ≤ (c : Rat) := by
    have : ((0 : Int) : Rat) ≤ (c : Rat) := Rat.intCast_le_intCast.2 (by omega)
    exact this
  have hcp : (0 : Rat) < (c : Rat) := by
    have : ((0 : Int) : Rat) < (c : Rat) := Rat.intCast_lt_intCast.2 (by omega)
    exact this
  generalize (v - lo) / (hi - lo) = f at *
  refine ⟨?_, ?_, fun h => ?_⟩
  · exact Rat.le_floor_iff.2 (Rat.mul_nonneg hb.1 hc0)
  · have h3 : f * c ≤ (c : Rat) := by
      have := Rat.mul_le_mul_of_nonneg_right hb.2.1 hc0
      rwa [Rat.one_mul] at this
    have h4 := Rat.le_trans (Rat.floor_le (f * c)) h3
    exact Rat.intCast_le_intCast.1 h4
  · refine Rat.floor_lt_iff.2 ?_
    have := Rat.mul_lt_mul_of_pos_right (hb.2.2 (by grind)) hcp
    rwa [Rat.one_mul] at this
theorem cell_top {lo hi : Rat} {c : Int} (h : lo < hi) (hc : 1 ≤ c) : cellZ hi lo hi c = c - 1 := by
  unfold cellZ
  have e : (hi - lo) / (hi - lo) = 1 := by rw [Rat.div_def]; exact Rat.mul_inv_cancel _ (by grind)
  rw [e, Rat.one_mul, Rat.floor_intCast]
  omega
theorem cell_in {v lo hi : Rat} {c : Int} (h : okP v lo hi c = true) : 0 ≤ cellZ v lo hi c ∧ cellZ v lo hi c < c := by
  unfold okP at h
  simp only [Bool.and_eq_true, decide_eq_true_eq] at h
  obtain ⟨⟨⟨h1, h2⟩, h3⟩, h4⟩ := h
  have := cell_floor h1 h2 h3 h4
  unfold cellZ
  omega
end Go.Vw

set_option linter.unusedVariables false
set_option linter.unusedSimpArgs false
set_option maxHeartbeats 8000000
namespace Go.Proofs.YtoppaphffnojdaaGreat
open Go.Vw
attribute [local irreducible] awp awpL awpR

theorem ref02_ToIntN (n : Nat) (h : n < 9223372036854775808) : Ret Tryz.prog 38 [zD (n : Int)] (· = .tup [.int .i64 n, .bool true]) := by
  have ln := u64_len (v := n) (by omega)
  have hv := ref02_TakeZ (n : Int) (by rw [Int.natAbs_natCast]; omega)
  rw [zD_nat] at hv ⊢
  have hu := ref01_UintN n (by omega)
  refine ret_of_awp tab Tryz.func38 rfl rfl (Nat.le_of_ble_eq_true rfl) (fun w0 F0 => ?_)
  repeat' (first
    | (show awpL _ _ _ _ _; first | refine goL ?_ | refine cl 78 tt rfl rfl rfl (hr := hv) (k := ?_) | refine cl 79 tt rfl rfl rfl (hr := hu) (k := ?_) | (refine gdLG ?_ ?_ <;> intro _ <;> try (exfalso; omega)))
    | (show awp _ _ _ _; first | refine goA ?_ | (refine cdG ?_ ?_ <;> intro _ <;> try (exfalso; omega)))
    | (show andThen _ _ _ _; refine goN ?_)
    | (show inBlock _ _ _ _; refine goB ?_)
    | (show retPost _ _ _ _ _; refine finG ?_))
  rfl
theorem exact_Less (x y : R3) (hx : RatOk x 1000000) (hy : RatOk y 1000000) : Ret Tryz.prog 31 [rD x, rD y] (· = .bool (decide (rv x < rv y))) := by
  have hc := rational_Compare x y hx hy
  have hn := cmpQ_neg (rv x) (rv y)
  obtain ⟨c, hcc⟩ : ∃ c, cmpQ (rv x) (rv y) = c := ⟨_, rfl⟩
  rw [hcc] at hc hn
  rw [show decide (rv x < rv y) = decide (c < 0) from decide_eq_decide.2 hn.symm]
  refine ret_of_awp tab Tryz.func31 rfl rfl (Nat.le_of_ble_eq_true rfl) (fun w0 F0 => ?_)
  repeat' (first
    | (show awpL _ _ _ _ _; first | refine goL ?_ | refine cl 65 tt rfl rfl rfl (hr := hc) (k := ?_) | (refine gdLG ?_ ?_ <;> intro _ <;> try (exfalso; omega)))
    | (show awp _ _ _ _; first | refine goA ?_ | (refine cdG ?_ ?_ <;> intro _ <;> try (exfalso; omega)))
    | (show andThen _ _ _ _; refine goN ?_)
    | (show inBlock _ _ _ _; refine goB ?_)
    | (show retPost _ _ _ _ _; refine finG ?_))
  rfl
theorem exact_QuotientQ (x y : Rat) (hx : okQ 1000000 x) (hy : okQ 1000000 y) (h0 : y ≠ 0) : Ret Tryz.prog 32 [qD x, qD y] (· = qD (x / y)) := by
  have hd := rational_DivQ x y hx hy
  rw [if_neg h0] at hd
  refine ret_of_awp tab Tryz.func32 rfl rfl (Nat.le_of_ble_eq_true rfl) (fun w0 F0 => ?_)
  repeat' (first
    | (show awpL _ _ _ _ _; first | refine goL ?_ | refine cl 66 tt rfl rfl rfl (hr := hd) (k := ?_) | (refine gdLG ?_ ?_ <;> intro _ <;> try (exfalso; omega)))
    | (show awp _ _ _ _; first | refine goA ?_ | (refine cdG ?_ ?_ <;> intro _ <;> try (exfalso; omega)))
    | (show andThen _ _ _ _; refine goN ?_)
    | (show inBlock _ _ _ _; refine goB ?_)
    | (show retPost _ _ _ _ _; refine finG ?_))
  rfl
theorem rational_FromIntW (v : Int) (h1 : -9223372036854775808 ≤ v) (h2 : v < 9223372036854775808) : Ret Tryz.prog 37 [.int .i64 v] (· = qD (v : Rat)) := by
  have := rational_FromInt v h1 h2
  rw [← rq_int] at this
  exact this
theorem plot_Place (v lo hi : R3) (c : Int) (hv : RatOk v 100) (hl : RatOk lo 100) (hh : RatOk hi 100) (h1 : -9223372036854775808 ≤ c) (h2 : c < 9223372036854775808) : Ret Tryz.prog 14 [rD v, rD lo, rD hi, .int .i64 c] (· = if okP (rv v) (rv lo) (rv hi) c then .tup [.int .i64 (cellZ (rv v) (rv lo) (rv hi) c), .bool true] else .tup [.int .i64 0, .bool false]) := by
  have l1 := exact_Less lo hi (hl.up (by decide)) (hh.up (by decide))
  have l2 := exact_Less v lo (hv.up (by decide)) (hl.up (by decide))
  have l3 := exact_Less hi v (hh.up (by decide)) (hv.up (by decide))
  by_cases hok : okP (rv v) (rv lo) (rv hi) c = true
  · rw [if_pos hok]
    have hok2 := hok
    unfold okP at hok2
    simp only [Bool.and_eq_true, decide_eq_true_eq] at hok2
    obtain ⟨⟨⟨b1, b2⟩, b3⟩, b4⟩ := hok2
    rw [decide_eq_true b1] at l1
    rw [decide_eq_false (Rat.not_lt.2 b3)] at l2
    rw [decide_eq_false (Rat.not_lt.2 b4)] at l3
    have kv : okQ 100 (rv v) := okQ_rv hv (by decide)
    have kl : okQ 100 (rv lo) := okQ_rv hl (by decide)
    have kh : okQ 100 (rv hi) := okQ_rv hh (by decide)
    have kc : okQ 10 (c : Rat) := ok_intW (by omega)
    have d1 := rational_Sub v lo (hv.up (by decide)) (hl.up (by decide))
    have d2 := rational_Sub hi lo (hh.up (by decide)) (hl.up (by decide))
    have hne : rv hi - rv lo ≠ 0 := by grind
    have kq := (kv.sub kl).div (kh.sub kl) hne
    have q1 := exact_QuotientQ (rv v - rv lo) (rv hi - rv lo) ((kv.sub kl).mono (by decide)) ((kh.sub kl).mono (by decide)) hne
    have f1 := rational_FromIntW c h1 h2
    have m1 := rational_MulQ _ _ (kq.mono (by decide)) (kc.mono (by decide))
    have g1 := rational_FloorQ _ ((kq.mul kc).mono (by decide))
    have hf := cell_floor b1 b2 b3 b4
    have hcell : cellZ (rv v) (rv lo) (rv hi) c = min ((rv v - rv lo) / (rv hi - rv lo) * c).floor (c - 1) := rfl
    rw [hcell]
    clear hok hcell b1 b3 b4 hne kv kl kh kc kq
    generalize (rv v - rv lo) / (rv hi - rv lo) * (c : Rat) = x at *
    generalize (rv v - rv lo) / (rv hi - rv lo) = y at *
    generalize rv v - rv lo = w at *
    generalize rv hi - rv lo = d at *
    generalize (c : Rat) = cq at *
    generalize x.floor = f at *
    obtain ⟨n, rfl⟩ : ∃ n : Nat, f = n := ⟨f.toNat, by omega⟩
    have t1 := integer_ToIntN n (by omega)
    refine ret_of_awp tab Tryz.func14 rfl rfl (Nat.le_of_ble_eq_true rfl) (fun w0 F0 => ?_)
    repeat' (first
      | (show awpL _ _ _ _ _; first | refine goL ?_ | refine cl 31 tt rfl rfl rfl (hr := l1) (k := ?_) | refine cl 31 tt rfl rfl rfl (hr := l2) (k := ?_) | refine cl 31 tt rfl rfl rfl (hr := l3) (k := ?_) | refine cl 33 tt rfl rfl rfl (hr := d1) (k := ?_) | refine cl 33 tt rfl rfl rfl (hr := d2) (k := ?_) | refine cl 32 tt rfl rfl rfl (hr := q1) (k := ?_) | refine cl 37 tt rfl rfl rfl (hr := f1) (k := ?_) | refine cl 36 tt rfl rfl rfl (hr := m1) (k := ?_) | refine cl 35 tt rfl rfl rfl (hr := g1) (k := ?_) | refine cl 34 tt rfl rfl rfl (hr := t1) (k := ?_) | (refine gdLG ?_ ?_ <;> intro _ <;> try (exfalso; omega)))
      | (show awp _ _ _ _; first | refine goA ?_ | refine rgK 3 8 [10] ?_ | refine rg 4 10 ?_ | (refine cdG ?_ ?_ <;> intro _ <;> try (exfalso; omega)))
      | (show andThen _ _ _ _; refine goN ?_)
      | (show inBlock _ _ _ _; refine goB ?_)
      | (show awpR _ _ _ _ _ _ _; first | refine goR ?_ | refine clR 31 tt rfl rfl rfl (hr := l1) (k := ?_) | refine clR 31 tt rfl rfl rfl (hr := l2) (k := ?_) | refine clR 31 tt rfl rfl rfl (hr := l3) (k := ?_) | refine clR 33 tt rfl rfl rfl (hr := d1) (k := ?_) | refine clR 33 tt rfl rfl rfl (hr := d2) (k := ?_) | refine clR 32 tt rfl rfl rfl (hr := q1) (k := ?_) | refine clR 37 tt rfl rfl rfl (hr := f1) (k := ?_) | refine clR 36 tt rfl rfl rfl (hr := m1) (k := ?_) | refine clR 35 tt rfl rfl rfl (hr := g1) (k := ?_) | refine clR 34 tt rfl rfl rfl (hr := t1) (k := ?_) | (refine gdRG ?_ ?_ <;> intro _ <;> try (exfalso; omega)))
      | (show retPost _ _ _ _ _; refine finG ?_))
    rfl
  · rw [if_neg hok]
    by_cases b1 : rv lo < rv hi
    · rw [decide_eq_true b1] at l1
      by_cases b2 : c < 1
      · clear hok
        refine ret_of_awp tab Tryz.func14 rfl rfl (Nat.le_of_ble_eq_true rfl) (fun w0 F0 => ?_)
        repeat' (first
          | (show awpL _ _ _ _ _; first | refine goL ?_ | refine cl 31 tt rfl rfl rfl (hr := l1) (k := ?_) | (refine gdLG ?_ ?_ <;> intro _ <;> try (exfalso; omega)))
          | (show awp _ _ _ _; first | refine goA ?_ | refine rgK 3 8 [10] ?_ | refine rg 4 10 ?_ | (refine cdG ?_ ?_ <;> intro _ <;> try (exfalso; omega)))
          | (show andThen _ _ _ _; refine goN ?_)
          | (show inBlock _ _ _ _; refine goB ?_)
          | (show awpR _ _ _ _ _ _ _; first | refine goR ?_ | refine clR 31 tt rfl rfl rfl (hr := l1) (k := ?_) | (refine gdRG ?_ ?_ <;> intro _ <;> try (exfalso; omega)))
          | (show retPost _ _ _ _ _; refine finG ?_))
        rfl
      · by_cases b3 : rv v < rv lo
        · rw [decide_eq_true b3] at l2
          clear hok
          refine ret_of_awp tab Tryz.func14 rfl rfl (Nat.le_of_ble_eq_true rfl) (fun w0 F0 => ?_)
          repeat' (first
            | (show awpL _ _ _ _ _; first | refine goL ?_ | refine cl 31 tt rfl rfl rfl (hr := l1) (k := ?_) | refine cl 31 tt rfl rfl rfl (hr := l2) (k := ?_) | (refine gdLG ?_ ?_ <;> intro _ <;> try (exfalso; omega)))
            | (show awp _ _ _ _; first | refine goA ?_ | refine rgK 3 8 [10] ?_ | refine rg 4 10 ?_ | (refine cdG ?_ ?_ <;> intro _ <;> try (exfalso; omega)))
            | (show andThen _ _ _ _; refine goN ?_)
            | (show inBlock _ _ _ _; refine goB ?_)
            | (show awpR _ _ _ _ _ _ _; first | refine goR ?_ | refine clR 31 tt rfl rfl rfl (hr := l1) (k := ?_) | refine clR 31 tt rfl rfl rfl (hr := l2) (k := ?_) | (refine gdRG ?_ ?_ <;> intro _ <;> try (exfalso; omega)))
            | (show retPost _ _ _ _ _; refine finG ?_))
          rfl
        · rw [decide_eq_false b3] at l2
          have b4 : rv hi < rv v := by
            refine Rat.not_le.1 fun h => hok ?_
            unfold okP
            simp only [Bool.and_eq_true, decide_eq_true_eq]
            exact ⟨⟨⟨b1, by omega⟩, Rat.not_lt.1 b3⟩, h⟩
          rw [decide_eq_true b4] at l3
          clear hok
          refine ret_of_awp tab Tryz.func14 rfl rfl (Nat.le_of_ble_eq_true rfl) (fun w0 F0 => ?_)
          repeat' (first
            | (show awpL _ _ _ _ _; first | refine goL ?_ | refine cl 31 tt rfl rfl rfl (hr := l1) (k := ?_) | refine cl 31 tt rfl rfl rfl (hr := l2) (k := ?_) | refine cl 31 tt rfl rfl rfl (hr := l3) (k := ?_) | (refine gdLG ?_ ?_ <;> intro _ <;> try (exfalso; omega)))
            | (show awp _ _ _ _; first | refine goA ?_ | refine rgK 3 8 [10] ?_ | refine rg 4 10 ?_ | (refine cdG ?_ ?_ <;> intro _ <;> try (exfalso; omega)))
            | (show andThen _ _ _ _; refine goN ?_)
            | (show inBlock _ _ _ _; refine goB ?_)
            | (show awpR _ _ _ _ _ _ _; first | refine goR ?_ | refine clR 31 tt rfl rfl rfl (hr := l1) (k := ?_) | refine clR 31 tt rfl rfl rfl (hr := l2) (k := ?_) | refine clR 31 tt rfl rfl rfl (hr := l3) (k := ?_) | (refine gdRG ?_ ?_ <;> intro _ <;> try (exfalso; omega)))
            | (show retPost _ _ _ _ _; refine finG ?_))
          rfl
    · rw [decide_eq_false b1] at l1
      clear hok
      refine ret_of_awp tab Tryz.func14 rfl rfl (Nat.le_of_ble_eq_true rfl) (fun w0 F0 => ?_)
      repeat' (first
        | (show awpL _ _ _ _ _; first | refine goL ?_ | refine cl 31 tt rfl rfl rfl (hr := l1) (k := ?_) | (refine gdLG ?_ ?_ <;> intro _ <;> try (exfalso; omega)))
        | (show awp _ _ _ _; first | refine goA ?_ | refine rgK 3 8 [10] ?_ | refine rg 4 10 ?_ | (refine cdG ?_ ?_ <;> intro _ <;> try (exfalso; omega)))
        | (show andThen _ _ _ _; refine goN ?_)
        | (show inBlock _ _ _ _; refine goB ?_)
        | (show awpR _ _ _ _ _ _ _; first | refine goR ?_ | refine clR 31 tt rfl rfl rfl (hr := l1) (k := ?_) | (refine gdRG ?_ ?_ <;> intro _ <;> try (exfalso; omega)))
        | (show retPost _ _ _ _ _; refine finG ?_))
      rfl
theorem ref03_DivQ (x y : Rat) (hx : okQ 1000000 x) (hy : okQ 1000000 y) (h0 : y ≠ 0) : Ret Tryz.prog 83 [qD x, qD y] (· = .tup [qD (x / y), .int .i64 0]) := by
  have sg := ref03_SignQ y hy
  have hs : y.num.sign ≠ 0 := fun h => h0 (Rat.num_eq_zero.1 (Int.sign_eq_zero_iff_zero.1 h))
  have q := ref03_QuoQ x y hx hy h0
  generalize y.num.sign = s at *
  refine ret_of_awp tab Tryz.func83 rfl rfl (Nat.le_of_ble_eq_true rfl) (fun w0 F0 => ?_)
  repeat' (first
    | (show awpL _ _ _ _ _; first | refine goL ?_ | refine cl 50 tt rfl rfl rfl (hr := sg) (k := ?_) | refine cl 126 tt rfl rfl rfl (hr := q) (k := ?_) | (refine gdLG ?_ ?_ <;> intro _ <;> try (exfalso; omega)))
    | (show awp _ _ _ _; first | refine goA ?_ | (refine cdG ?_ ?_ <;> intro _ <;> try (exfalso; omega)))
    | (show andThen _ _ _ _; refine goN ?_)
    | (show inBlock _ _ _ _; refine goB ?_)
    | (show retPost _ _ _ _ _; refine finG ?_))
  rfl
theorem ref23_Ratio (x y : Rat) (hx : okQ 1000000 x) (hy : okQ 1000000 y) (h0 : y ≠ 0) : Ret Tryz.prog 40 [qD x, qD y] (· = qD (x / y)) := by
  have d := ref03_DivQ x y hx hy h0
  refine ret_of_awp tab Tryz.func40 rfl rfl (Nat.le_of_ble_eq_true rfl) (fun w0 F0 => ?_)
  repeat' (first
    | (show awpL _ _ _ _ _; first | refine goL ?_ | refine cl 83 tt rfl rfl rfl (hr := d) (k := ?_) | (refine gdLG ?_ ?_ <;> intro _ <;> try (exfalso; omega)))
    | (show awp _ _ _ _; first | refine goA ?_ | (refine cdG ?_ ?_ <;> intro _ <;> try (exfalso; omega)))
    | (show andThen _ _ _ _; refine goN ?_)
    | (show inBlock _ _ _ _; refine goB ?_)
    | (show retPost _ _ _ _ _; refine finG ?_))
  rfl
theorem ref23_Of (v : Int) (h1 : -9223372036854775808 ≤ v) (h2 : v < 9223372036854775808) : Ret Tryz.prog 43 [.int .i64 v] (· = qD (v : Rat)) := by
  have h := ref03_FromIntW v h1 h2
  refine ret_of_awp tab Tryz.func43 rfl rfl (Nat.le_of_ble_eq_true rfl) (fun w0 F0 => ?_)
  repeat' (first
    | (show awpL _ _ _ _ _; first | refine goL ?_ | refine cl 17 tt rfl rfl rfl (hr := h) (k := ?_) | (refine gdLG ?_ ?_ <;> intro _ <;> try (exfalso; omega)))
    | (show awp _ _ _ _; first | refine goA ?_ | (refine cdG ?_ ?_ <;> intro _ <;> try (exfalso; omega)))
    | (show andThen _ _ _ _; refine goN ?_)
    | (show inBlock _ _ _ _; refine goB ?_)
    | (show retPost _ _ _ _ _; refine finG ?_))
  rfl
theorem ref40_Place (v lo hi : R3) (c : Int) (hv : RatOk v 100) (hl : RatOk lo 100) (hh : RatOk hi 100) (h1 : -9223372036854775808 ≤ c) (h2 : c < 9223372036854775808) : Ret Tryz.prog 15 [rD v, rD lo, rD hi, .int .i64 c] (· = if okP (rv v) (rv lo) (rv hi) c then .tup [.int .i64 (cellZ (rv v) (rv lo) (rv hi) c), .bool true] else .tup [.int .i64 0, .bool false]) := by
  have l1 := ref03_Compare lo hi (hl.up (by decide)) (hh.up (by decide))
  have l2 := ref03_Compare v lo (hv.up (by decide)) (hl.up (by decide))
  have l3 := ref03_Compare v hi (hv.up (by decide)) (hh.up (by decide))
  have n1 := cmpQ_neg (rv lo) (rv hi)
  have n2 := cmpQ_neg (rv v) (rv lo)
  have n3 := cmpQ_pos (rv v) (rv hi)
  have z3 := cmpQ_zero (rv v) (rv hi)
  obtain ⟨k1, e1⟩ : ∃ k, cmpQ (rv lo) (rv hi) = k := ⟨_, rfl⟩
  obtain ⟨k2, e2⟩ : ∃ k, cmpQ (rv v) (rv lo) = k := ⟨_, rfl⟩
  obtain ⟨k3, e3⟩ : ∃ k, cmpQ (rv v) (rv hi) = k := ⟨_, rfl⟩
  rw [e1] at l1 n1
  rw [e2] at l2 n2
  rw [e3] at l3 n3 z3
  clear e1 e2 e3
  by_cases hok : okP (rv v) (rv lo) (rv hi) c = true
  · rw [if_pos hok]
    have hok2 := hok
    unfold okP at hok2
    simp only [Bool.and_eq_true, decide_eq_true_eq] at hok2
    obtain ⟨⟨⟨b1, b2⟩, b3⟩, b4⟩ := hok2
    have p1 := n1.2 b1
    have p2 := mt n2.1 (Rat.not_lt.2 b3)
    have p3 := mt n3.1 (Rat.not_lt.2 b4)
    clear n1 n2 n3
    by_cases hz : rv v = rv hi
    · have p4 := z3.2 hz
      clear z3
      rw [hz, cell_top b1 b2]
      clear hok hz b1 b3 b4
      refine ret_of_awp tab Tryz.func15 rfl rfl (Nat.le_of_ble_eq_true rfl) (fun w0 F0 => ?_)
      repeat' (first
        | (show awpL _ _ _ _ _; first | refine goL ?_ | refine cl 20 tt rfl rfl rfl (hr := l1) (k := ?_) | refine cl 20 tt rfl rfl rfl (hr := l2) (k := ?_) | refine cl 20 tt rfl rfl rfl (hr := l3) (k := ?_) | (refine gdLG ?_ ?_ <;> intro _ <;> try (exfalso; omega)))
        | (show awp _ _ _ _; first | refine goA ?_ | refine rg 5 16 ?_ | (refine cdG ?_ ?_ <;> intro _ <;> try (exfalso; omega)))
        | (show andThen _ _ _ _; refine goN ?_)
        | (show inBlock _ _ _ _; refine goB ?_)
        | (show awpR _ _ _ _ _ _ _; first | refine goR ?_ | refine clR 20 tt rfl rfl rfl (hr := l1) (k := ?_) | refine clR 20 tt rfl rfl rfl (hr := l2) (k := ?_) | refine clR 20 tt rfl rfl rfl (hr := l3) (k := ?_) | (refine gdRG ?_ ?_ <;> intro _ <;> try (exfalso; omega)))
        | (show retPost _ _ _ _ _; refine finG ?_))
      rfl
    · have p4 := mt z3.1 hz
      clear z3
      have kv : okQ 100 (rv v) := okQ_rv hv (by decide)
      have kl : okQ 100 (rv lo) := okQ_rv hl (by decide)
      have kh : okQ 100 (rv hi) := okQ_rv hh (by decide)
      have kc : okQ 10 (c : Rat) := ok_intW (by omega)
      have d1 := ref03_Sub v lo (hv.up (by decide)) (hl.up (by decide))
      have d2 := ref03_Sub hi lo (hh.up (by decide)) (hl.up (by decide))
      have hne : rv hi - rv lo ≠ 0 := by grind
      have km := (kv.sub kl).mul kc
      have kq := km.div (kh.sub kl) hne
      have f1 := ref23_Of c h1 h2
      have m1 := ref03_MulQ _ _ ((kv.sub kl).mono (by decide)) (kc.mono (by decide))
      have q1 := ref23_Ratio _ _ (km.mono (by decide)) ((kh.sub kl).mono (by decide)) hne
      have g1 := ref03_FloorQ _ (kq.mono (by decide))
      rw [cell_comm] at q1 g1
      have hf := cell_floor b1 b2 b3 b4
      have hlt := hf.2.2 (by grind)
      have hcell : cellZ (rv v) (rv lo) (rv hi) c = ((rv v - rv lo) / (rv hi - rv lo) * c).floor := by
        unfold cellZ; omega
      rw [hcell]
      clear hok hcell b1 b3 b4 hne kv kl kh kc kq km hz
      generalize (rv v - rv lo) / (rv hi - rv lo) * (c : Rat) = x at *
      generalize (rv v - rv lo) * (c : Rat) = y at *
      generalize rv v - rv lo = w at *
      generalize rv hi - rv lo = d at *
      generalize (c : Rat) = cq at *
      generalize x.floor = f at *
      obtain ⟨n, rfl⟩ : ∃ n : Nat, f = n := ⟨f.toNat, by omega⟩
      have t1 := ref02_ToIntN n (by omega)
      refine ret_of_awp tab Tryz.func15 rfl rfl (Nat.le_of_ble_eq_true rfl) (fun w0 F0 => ?_)
      repeat' (first
        | (show awpL _ _ _ _ _; first | refine goL ?_ | refine cl 20 tt rfl rfl rfl (hr := l1) (k := ?_) | refine cl 20 tt rfl rfl rfl (hr := l2) (k := ?_) | refine cl 20 tt rfl rfl rfl (hr := l3) (k := ?_) | refine cl 42 tt rfl rfl rfl (hr := d1) (k := ?_) | refine cl 42 tt rfl rfl rfl (hr := d2) (k := ?_) | refine cl 40 tt rfl rfl rfl (hr := q1) (k := ?_) | refine cl 43 tt rfl rfl rfl (hr := f1) (k := ?_) | refine cl 41 tt rfl rfl rfl (hr := m1) (k := ?_) | refine cl 39 tt rfl rfl rfl (hr := g1) (k := ?_) | refine cl 38 tt rfl rfl rfl (hr := t1) (k := ?_) | (refine gdLG ?_ ?_ <;> intro _ <;> try (exfalso; omega)))
        | (show awp _ _ _ _; first | refine goA ?_ | refine rg 5 16 ?_ | (refine cdG ?_ ?_ <;> intro _ <;> try (exfalso; omega)))
        | (show andThen _ _ _ _; refine goN ?_)
        | (show inBlock _ _ _ _; refine goB ?_)
        | (show awpR _ _ _ _ _ _ _; first | refine goR ?_ | refine clR 20 tt rfl rfl rfl (hr := l1) (k := ?_) | refine clR 20 tt rfl rfl rfl (hr := l2) (k := ?_) | refine clR 20 tt rfl rfl rfl (hr := l3) (k := ?_) | refine clR 42 tt rfl rfl rfl (hr := d1) (k := ?_) | refine clR 42 tt rfl rfl rfl (hr := d2) (k := ?_) | refine clR 40 tt rfl rfl rfl (hr := q1) (k := ?_) | refine clR 43 tt rfl rfl rfl (hr := f1) (k := ?_) | refine clR 41 tt rfl rfl rfl (hr := m1) (k := ?_) | refine clR 39 tt rfl rfl rfl (hr := g1) (k := ?_) | refine clR 38 tt rfl rfl rfl (hr := t1) (k := ?_) | (refine gdRG ?_ ?_ <;> intro _ <;> try (exfalso; omega)))
        | (show retPost _ _ _ _ _; refine finG ?_))
      rfl
  · rw [if_neg hok]
    have hn : ¬ (k1 < 0) ∨ c < 1 ∨ k2 < 0 ∨ 0 < k3 := by
      refine Classical.byContradiction fun h => hok ?_
      unfold okP
      simp only [Bool.and_eq_true, decide_eq_true_eq]
      exact ⟨⟨⟨n1.1 (by omega), by omega⟩, Rat.not_lt.1 (mt n2.2 (by omega))⟩, Rat.not_lt.1 (mt n3.2 (by omega))⟩
    clear hok n1 n2 n3 z3
    refine ret_of_awp tab Tryz.func15 rfl rfl (Nat.le_of_ble_eq_true rfl) (fun w0 F0 => ?_)
    repeat' (first
      | (show awpL _ _ _ _ _; first | refine goL ?_ | refine cl 20 tt rfl rfl rfl (hr := l1) (k := ?_) | refine cl 20 tt rfl rfl rfl (hr := l2) (k := ?_) | refine cl 20 tt rfl rfl rfl (hr := l3) (k := ?_) | (refine gdLG ?_ ?_ <;> intro _ <;> try (exfalso; omega)))
      | (show awp _ _ _ _; first | refine goA ?_ | refine rg 5 16 ?_ | (refine cdG ?_ ?_ <;> intro _ <;> try (exfalso; omega)))
      | (show andThen _ _ _ _; refine goN ?_)
      | (show inBlock _ _ _ _; refine goB ?_)
      | (show awpR _ _ _ _ _ _ _; first | refine goR ?_ | refine clR 20 tt rfl rfl rfl (hr := l1) (k := ?_) | refine clR 20 tt rfl rfl rfl (hr := l2) (k := ?_) | refine clR 20 tt rfl rfl rfl (hr := l3) (k := ?_) | (refine gdRG ?_ ?_ <;> intro _ <;> try (exfalso; omega)))
      | (show retPost _ _ _ _ _; refine finG ?_))
    all_goals rfl
end Go.Proofs.YtoppaphffnojdaaGreat

set_option linter.unusedVariables false
set_option linter.unusedSimpArgs false
set_option maxHeartbeats 8000000
namespace Go.Proofs.YtoppaphffnojdaaGreat
open Go.Vw
attribute [local irreducible] awp awpL awpR Int.decLt Int.decLe

theorem slices_SortFunc (l : List Rat) (hn : l.length ≤ 200) (hl : ∀ q ∈ l, okQ 1000 q) : RetB Tryz.prog 133 [.own 1000 0 l.length 27 3, .fn 65 []] (lookB [(1000, .data 27 3 qC 0 l)]) (.tup []) (lookB [(1000, .data 27 3 qC 0 (srt l))]) := by
  have h : RetB Tryz.prog 151 [.own 1000 0 l.length 27 3, .d (.int .i64 0), .d (.int .i64 l.length), .d (.int .i64 (len8 l.length)), .fn 65 []] (lookB [(1000, .data 27 3 qC 0 l)]) (.tup []) (lookB [(1000, .data 27 3 qC 0 (srt l))]) := by
    have h0 := sl_pdq _ l.toArray 0 l.length (len8 l.length) (Nat.le_refl _) hl (by simp; omega) (Nat.zero_le _) (by simp) (.inl rfl) (by have := (len8_le l.length (by omega)).1; omega)
    have e := srtIn_all l.toArray
    rw [show l.toArray.size = l.length by simp, show l.toArray.toList = l by simp] at e
    rw [← e]
    exact h0
  have hs := srt_len l
  have hb := bits_Len l.length (by omega)
  generalize len8 l.length = n at *
  refine retB_of_awp tab [1000] Tryz.func133 rfl rfl rfl (Nat.le_of_ble_eq_true rfl) rfl ⟨by show l.length ≤ (srt l).length; rw [srt_len]; exact Nat.le_refl _, trivial⟩ (fun w0 F0 A io0 => ?_)
  repeat' (first
    | (show awpL _ _ _ _ _; first | refine goL ?_ | refine clB 151 [] (h) tt rfl rfl rfl rfl rfl rfl leVT allB ?_ | refine cl 152 tt rfl rfl rfl (hr := hb) (k := ?_) | (refine gdLG ?_ ?_ <;> intro _ <;> try (exfalso; omega)))
    | (show awp _ _ _ _; first | refine goA ?_ | (refine cdG ?_ ?_ <;> intro _ <;> try (exfalso; omega)))
    | (show andThen _ _ _ _; refine goN ?_)
    | (show inBlock _ _ _ _; refine goB ?_)
    | (show retPost _ _ _ _ _; refine finG ?_)
    | (show retPostB _ _ _ _ _ _; first | refine finB rfl rfl ?_ ?_ | refine finBT rfl rfl rfl ?_ ?_))
  all_goals first | exact leVT | exact ⟨rfl, trivial⟩
theorem order_Sort (l : List R3) (hn : l.length ≤ 200) (hl : ∀ r ∈ l, RatOk r 1000) : Ret Tryz.prog 98 [rsD l] (· = qsD (srt (l.map rv))) := by
  have hq : ∀ q ∈ l.map rv, okQ 1000 q := fun q hq => by
    obtain ⟨r, hr, rfl⟩ := List.mem_map.1 hq
    exact okQ_rv (hl r hr) (by decide)
  have h0 := slices_SortFunc (l.map rv) (by rw [List.length_map]; exact hn) hq
  rw [List.length_map] at h0
  have h : RetB Tryz.prog 133 [.own 500 0 l.length 27 3, .fn 65 []] (lookB [(500, .data 27 3 qC 0 (l.map rv))]) (.tup []) (lookB [(500, .data 27 3 qC 0 (srt (l.map rv)))]) := h0.ren [(1000, 500)]
  have hs : (srt (l.map rv)).length = l.length := by rw [srt_len, List.length_map]
  clear h0 hq
  refine ret_of_awp tab Tryz.func98 rfl rfl (Nat.le_of_ble_eq_true rfl) (fun w0 F0 => ?_)
  repeat' (first
    | (show awpL _ _ _ _ _; first | refine goL ?_ | (refine gdLG ?_ ?_ <;> intro _ <;> try (exfalso; omega)))
    | (show awp _ _ _ _; first | refine goA ?_ | (refine cdG ?_ ?_ <;> intro _ <;> try (exfalso; omega)))
    | (show andThen _ _ _ _; refine goN ?_)
    | (show inBlock _ _ _ _; refine goB ?_)
    | (show retPost _ _ _ _ _; refine finG ?_)
    | (show retPostB _ _ _ _ _ _; first | refine finB rfl rfl ?_ ?_ | refine finBT rfl rfl rfl ?_ ?_))
  refine awp_adopt 3 500 27 3 qC 0 rfl ?_
  refine awp_loop1 (fun (i : Nat) => ([(3, .own 500 0 ((l.map rv).take i).length 27 3), (6, .d (rsD l)), (7, .d (.int .i64 l.length)), (8, .d (.int .i64 i))], [(500, .data 27 3 qC 0 ((l.map rv).take i))])) (fun i => i ≤ l.length) (fun i => l.length - i) 0 (by omega) ⟨rfl, rfl, rfl, rfl, rfl⟩ ⟨rfl, trivial⟩ (fun i hi => ?_)
  have hlen : ((l.map rv).take i).length = i := by simp; omega
  by_cases h3 : i < l.length
  · have g1 : l.getD i r0 ∈ l := by rw [List.getD, List.getElem?_eq_getElem h3]; exact List.getElem_mem h3
    have ha := rational_Add (l.getD i r0) r0 ((hl _ g1).up (by decide)) (ok_r0 (by decide))
    rw [rv_r0, Rat.add_zero] at ha
    have e : (l.map rv).take i ++ [rv (l.getD i r0)] = (l.map rv).take (i + 1) := by
      rw [List.take_add_one]
      simp [h3, List.getD, List.getElem?_eq_getElem h3]
    clear h hs
    repeat' (first
      | (show awpL _ _ _ _ _; first | refine goL ?_ | refine cl 67 tt rfl rfl rfl (hr := ha) (k := ?_) | (refine gdLG ?_ ?_ <;> intro _ <;> try (exfalso; omega)))
      | (show awp _ _ _ _; first | refine goA ?_ | (refine cdG ?_ ?_ <;> intro _ <;> try (exfalso; omega)))
      | (show andThen _ _ _ _; refine goN ?_)
      | (show inBlock _ _ _ _; refine goB ?_)
      | (show retPost _ _ _ _ _; refine finG ?_)
      | (show retPostB _ _ _ _ _ _; first | refine finB rfl rfl ?_ ?_ | refine finBT rfl rfl rfl ?_ ?_))
    exact ⟨i + 1, by omega, by omega, ⟨by rw [← e]; rfl, rfl, rfl, iv (by omega), rfl⟩, by rw [← e]; rfl, trivial⟩
  · have e : (l.map rv).take i = l.map rv := List.take_of_length_le (by rw [List.length_map]; omega)
    rw [e] at hlen ⊢
    rw [List.length_map]
    generalize srt (l.map rv) = s at *
    repeat' (first
      | (show awpL _ _ _ _ _; first | refine goL ?_ | refine clB 133 [] (h) tt rfl rfl rfl rfl rfl rfl leVT allB ?_ | (refine gdLG ?_ ?_ <;> intro _ <;> try (exfalso; omega)))
      | (show awp _ _ _ _; first | refine goA ?_ | (refine cdG ?_ ?_ <;> intro _ <;> try (exfalso; omega)))
      | (show andThen _ _ _ _; refine goN ?_)
      | (show inBlock _ _ _ _; refine goB ?_)
      | (show retPost _ _ _ _ _; refine finG ?_)
      | (show retPostB _ _ _ _ _ _; first | refine finB rfl rfl ?_ ?_ | refine finBT rfl rfl rfl ?_ ?_))
    all_goals rfl
end Go.Proofs.YtoppaphffnojdaaGreat

set_option linter.unusedVariables false
set_option linter.unusedSimpArgs false
set_option maxHeartbeats 8000000
namespace Go.Proofs.YtoppaphffnojdaaGreat
open Go.Vw
attribute [local irreducible] awp awpL awpR

def chkO (n : Nat) (k : Int) : Int := if (n : Int) < k then 10 else if 1024 < n then 2 else 0
theorem order_check (l : List R3) (k : Int) (hl : l.length ≤ 9223372036854775807) : Ret Tryz.prog 96 [rsD l, .int .i64 k] (· = .int .i64 (chkO l.length k)) := by
  unfold chkO
  by_cases c1 : (l.length : Int) < k
  · rw [if_pos c1]
    refine ret_of_awp tab Tryz.func96 rfl rfl (Nat.le_of_ble_eq_true rfl) (fun w0 F0 => ?_)
    repeat' (first
      | (show awpL _ _ _ _ _; first | refine goL ?_ | (refine gdLG ?_ ?_ <;> intro _ <;> try (exfalso; omega)))
      | (show awp _ _ _ _; first | refine goA ?_ | (refine cdG ?_ ?_ <;> intro _ <;> try (exfalso; omega)))
      | (show andThen _ _ _ _; refine goN ?_)
      | (show inBlock _ _ _ _; refine goB ?_)
      | (show retPost _ _ _ _ _; refine finG ?_))
    all_goals rfl
  rw [if_neg c1]
  by_cases c2 : 1024 < l.length
  · rw [if_pos c2]
    refine ret_of_awp tab Tryz.func96 rfl rfl (Nat.le_of_ble_eq_true rfl) (fun w0 F0 => ?_)
    repeat' (first
      | (show awpL _ _ _ _ _; first | refine goL ?_ | (refine gdLG ?_ ?_ <;> intro _ <;> try (exfalso; omega)))
      | (show awp _ _ _ _; first | refine goA ?_ | (refine cdG ?_ ?_ <;> intro _ <;> try (exfalso; omega)))
      | (show andThen _ _ _ _; refine goN ?_)
      | (show inBlock _ _ _ _; refine goB ?_)
      | (show retPost _ _ _ _ _; refine finG ?_))
    all_goals rfl
  · rw [if_neg c2]
    refine ret_of_awp tab Tryz.func96 rfl rfl (Nat.le_of_ble_eq_true rfl) (fun w0 F0 => ?_)
    repeat' (first
      | (show awpL _ _ _ _ _; first | refine goL ?_ | (refine gdLG ?_ ?_ <;> intro _ <;> try (exfalso; omega)))
      | (show awp _ _ _ _; first | refine goA ?_ | (refine cdG ?_ ?_ <;> intro _ <;> try (exfalso; omega)))
      | (show andThen _ _ _ _; refine goN ?_)
      | (show inBlock _ _ _ _; refine goB ?_)
      | (show retPost _ _ _ _ _; refine finG ?_))
    all_goals rfl
theorem order_median (l : List R3) (h0 : 0 < l.length) (hn : l.length ≤ 200) (hl : ∀ r ∈ l, RatOk r 1000) : Ret Tryz.prog 99 [rsD l] (· = .tup [qD (medLo (l.map rv)), qD (medHi (l.map rv))]) := by
  have hs := order_Sort l hn hl
  have hq : ∀ q ∈ l.map rv, okQ 1000 q := fun q hq => by
    obtain ⟨r, hr, rfl⟩ := List.mem_map.1 hq
    exact okQ_rv (hl r hr) (by decide)
  have ho := srt_ok hq
  have hlen := srt_len (l.map rv)
  rw [List.length_map] at hlen
  unfold medLo medHi
  rw [List.length_map]
  generalize srt (l.map rv) = s at *
  have e1 : (((l.length : Int) + 1) / 2 - 1).toNat = (l.length + 1) / 2 - 1 := by omega
  have ha := rational_Add (rq (s.getD (l.length / 2) 0)) r0 (ok_rq ((getD_ok ho (by omega)).mono (by decide))) (ok_r0 (by decide))
  rw [rv_r0, Rat.add_zero, rv_rq] at ha
  refine ret_of_awp tab Tryz.func99 rfl rfl (Nat.le_of_ble_eq_true rfl) (fun w0 F0 => ?_)
  repeat' (first
    | (show awpL _ _ _ _ _; first | refine goL ?_ | refine cl 98 tt rfl rfl rfl (hr := hs) (k := ?_) | refine cl 67 tt rfl rfl rfl (hr := ha) (k := ?_) | (refine gdLG ?_ ?_ <;> intro _ <;> try (exfalso; omega)))
    | (show awp _ _ _ _; first | refine goA ?_ | refine rg 2 14 ?_ | (refine cdG ?_ ?_ <;> intro _ <;> try (exfalso; omega)))
    | (show andThen _ _ _ _; refine goN ?_)
    | (show inBlock _ _ _ _; refine goB ?_)
    | (show awpR _ _ _ _ _ _ _; first | refine goR ?_ | refine clR 98 tt rfl rfl rfl (hr := hs) (k := ?_) | refine clR 67 tt rfl rfl rfl (hr := ha) (k := ?_) | (refine gdRG ?_ ?_ <;> intro _ <;> try (exfalso; omega)))
    | (show retPost _ _ _ _ _; refine finG ?_))
  all_goals rw [e1]
theorem mapq_ok {l : List R3} (hl : ∀ r ∈ l, RatOk r 1000) : ∀ q ∈ l.map rv, okQ 1000 q := fun q hq => by
  obtain ⟨r, hr, rfl⟩ := List.mem_map.1 hq
  exact okQ_rv (hl r hr) (by decide)
theorem order_Median (l : List R3) (h0 : 0 < l.length) (hn : l.length ≤ 200) (hl : ∀ r ∈ l, RatOk r 1000) : Ret Tryz.prog 60 [rsD l] (· = .tup [qD (medLo (l.map rv)), qD (medHi (l.map rv)), .int .i64 0]) := by
  have hc := order_check l 1 (by omega)
  rw [show chkO l.length 1 = 0 by unfold chkO; rw [if_neg (by omega), if_neg (by omega)]] at hc
  have hm := order_median l h0 hn hl
  generalize medLo (l.map rv) = a at *
  generalize medHi (l.map rv) = b at *
  refine ret_of_awp tab Tryz.func60 rfl rfl (Nat.le_of_ble_eq_true rfl) (fun w0 F0 => ?_)
  repeat' (first
    | (show awpL _ _ _ _ _; first | refine goL ?_ | refine cl 96 tt rfl rfl rfl (hr := hc) (k := ?_) | refine cl 99 tt rfl rfl rfl (hr := hm) (k := ?_) | (refine gdLG ?_ ?_ <;> intro _ <;> try (exfalso; omega)))
    | (show awp _ _ _ _; first | refine goA ?_ | refine rgX 5 3 [] ?_ | (refine cdG ?_ ?_ <;> intro _ <;> try (exfalso; omega)))
    | (show andThen _ _ _ _; refine goN ?_)
    | (show inBlock _ _ _ _; refine goB ?_)
    | (show awpR _ _ _ _ _ _ _; first | refine goR ?_ | refine clR 96 tt rfl rfl rfl (hr := hc) (k := ?_) | refine clR 99 tt rfl rfl rfl (hr := hm) (k := ?_) | (refine gdRG ?_ ?_ <;> intro _ <;> try (exfalso; omega)))
    | (show retPost _ _ _ _ _; refine finG ?_))
  rfl
theorem order_Quantile (l : List R3) (p : R3) (h0 : 0 < l.length) (hn : l.length ≤ 200) (hl : ∀ r ∈ l, RatOk r 1000) (hp : RatOk p 1000) (p0 : 0 ≤ rv p) (p1 : rv p ≤ 1) : Ret Tryz.prog 58 [rsD l, rD p] (· = .tup [qD (qLo (l.map rv) (rv p)), qD (qHi (l.map rv) (rv p)), .int .i64 0]) := by
  have hc := order_check l 1 (by omega)
  rw [show chkO l.length 1 = 0 by unfold chkO; rw [if_neg (by omega), if_neg (by omega)]] at hc
  have sg := rational_Sign p (hp.up (by decide))
  have hs0 : 0 ≤ (rv p).num.sign := Int.sign_nonneg_iff.2 (Rat.num_nonneg.2 p0)
  have f1 := rational_FromIntW 1 (by decide) (by decide)
  rw [show ((1 : Int) : Rat) = 1 from rfl] at f1
  have c1 := rational_Compare p (rq 1) (hp.up (by decide)) (ok_rq (okQ_one.mono (by decide)))
  rw [rv_rq] at c1
  have hc1 : ¬ 0 < cmpQ (rv p) 1 := by rw [cmpQ_pos]; exact Rat.not_lt.2 p1
  have hs := order_Sort l hn hl
  have ho := srt_ok (mapq_ok hl)
  have hlen := srt_len (l.map rv)
  rw [List.length_map] at hlen
  have kp : okQ 1000 (rv p) := okQ_rv hp (by decide)
  have kn : okQ 10 ((l.length : Int) : Rat) := ok_intW (by omega)
  have fn := rational_FromIntW (l.length : Int) (by omega) (by omega)
  have mu := rational_Mul p (rq ((l.length : Int) : Rat)) (hp.up (by decide)) (ok_rq (kn.mono (by decide)))
  rw [rv_rq] at mu
  have fl := rational_FloorQ (rv p * ((l.length : Int) : Rat)) ((kp.mul kn).mono (by decide))
  have b0 := nonneg_floor (mul_nat_nonneg l.length p0)
  have bn := floor_le_nat (mul_nat_le l.length p1)
  unfold qLo qHi qFirst
  rw [List.length_map]
  have kat := kp.mul kn
  generalize rv p * ((l.length : Int) : Rat) = x at *
  generalize ((l.length : Int) : Rat) = nq at *
  generalize x.floor = f at *
  generalize srt (l.map rv) = s at *
  obtain ⟨k, rfl⟩ : ∃ m : Nat, f = m := ⟨f.toNat, by omega⟩
  have ti := integer_ToIntN k (by omega)
  have fk := rational_FromIntW (k : Int) (by omega) (by omega)
  have kk : okQ 10 ((k : Int) : Rat) := ok_intW (by omega)
  have ck := rational_CompareQ x ((k : Int) : Rat) (kat.mono (by decide)) (kk.mono (by decide))
  have zk := cmpQ_zero x ((k : Int) : Rat)
  generalize cmpQ (rv p) 1 = c0 at *
  generalize (1 : Rat) = one at *
  obtain ⟨c2, hc2⟩ : ∃ c, cmpQ x ((k : Int) : Rat) = c := ⟨_, rfl⟩
  rw [hc2] at ck zk
  generalize ((k : Int) : Rat) = kq at *
  generalize (rv p).num.sign = sp at *
  have hi2 := getD_ok ho (show (min (k : Int) ((l.length : Int) - 1)).toNat < s.length by omega)
  have a2 := rational_Add (rq (s.getD (min (k : Int) ((l.length : Int) - 1)).toNat 0)) r0 (ok_rq (hi2.mono (by decide))) (ok_r0 (by decide))
  rw [rv_r0, Rat.add_zero, rv_rq] at a2
  clear hc2 p0 p1 kp kn kat kk hi2
  by_cases hk : 0 < (k : Int) ∧ x = kq
  · rw [if_pos hk]
    have hz := zk.2 hk.2
    have hk0 := hk.1
    clear hk zk
    refine ret_of_awp tab Tryz.func58 rfl rfl (Nat.le_of_ble_eq_true rfl) (fun w0 F0 => ?_)
    repeat' (first
      | (show awpL _ _ _ _ _; first | refine goL ?_ | refine cl 96 tt rfl rfl rfl (hr := hc) (k := ?_) | refine cl 97 tt rfl rfl rfl (hr := sg) (k := ?_) | refine cl 37 tt rfl rfl rfl (hr := f1) (k := ?_) | refine cl 65 tt rfl rfl rfl (hr := c1) (k := ?_) | refine cl 98 tt rfl rfl rfl (hr := hs) (k := ?_) | refine cl 37 tt rfl rfl rfl (hr := fn) (k := ?_) | refine cl 36 tt rfl rfl rfl (hr := mu) (k := ?_) | refine cl 35 tt rfl rfl rfl (hr := fl) (k := ?_) | refine cl 34 tt rfl rfl rfl (hr := ti) (k := ?_) | refine cl 37 tt rfl rfl rfl (hr := fk) (k := ?_) | refine cl 65 tt rfl rfl rfl (hr := ck) (k := ?_) | refine cl 67 tt rfl rfl rfl (hr := a2) (k := ?_) | (refine gdLG ?_ ?_ <;> intro _ <;> try (exfalso; omega)))
      | (show awp _ _ _ _; first | refine goA ?_ | refine rg 4 6 ?_ | refine rgK 7 5 [10] ?_ | refine rg 10 6 ?_ | refine rg 12 16 ?_ | (refine cdG ?_ ?_ <;> intro _ <;> try (exfalso; omega)))
      | (show andThen _ _ _ _; refine goN ?_)
      | (show inBlock _ _ _ _; refine goB ?_)
      | (show awpR _ _ _ _ _ _ _; first | refine goR ?_ | refine clR 96 tt rfl rfl rfl (hr := hc) (k := ?_) | refine clR 97 tt rfl rfl rfl (hr := sg) (k := ?_) | refine clR 37 tt rfl rfl rfl (hr := f1) (k := ?_) | refine clR 65 tt rfl rfl rfl (hr := c1) (k := ?_) | refine clR 98 tt rfl rfl rfl (hr := hs) (k := ?_) | refine clR 37 tt rfl rfl rfl (hr := fn) (k := ?_) | refine clR 36 tt rfl rfl rfl (hr := mu) (k := ?_) | refine clR 35 tt rfl rfl rfl (hr := fl) (k := ?_) | refine clR 34 tt rfl rfl rfl (hr := ti) (k := ?_) | refine clR 37 tt rfl rfl rfl (hr := fk) (k := ?_) | refine clR 65 tt rfl rfl rfl (hr := ck) (k := ?_) | refine clR 67 tt rfl rfl rfl (hr := a2) (k := ?_) | (refine gdRG ?_ ?_ <;> intro _ <;> try (exfalso; omega)))
      | (show retPost _ _ _ _ _; refine finG ?_))
    rfl
  · rw [if_neg hk]
    by_cases hk0 : 0 < (k : Int)
    · have hz := mt zk.1 (fun e => hk ⟨hk0, e⟩)
      clear hk zk
      refine ret_of_awp tab Tryz.func58 rfl rfl (Nat.le_of_ble_eq_true rfl) (fun w0 F0 => ?_)
      repeat' (first
        | (show awpL _ _ _ _ _; first | refine goL ?_ | refine cl 96 tt rfl rfl rfl (hr := hc) (k := ?_) | refine cl 97 tt rfl rfl rfl (hr := sg) (k := ?_) | refine cl 37 tt rfl rfl rfl (hr := f1) (k := ?_) | refine cl 65 tt rfl rfl rfl (hr := c1) (k := ?_) | refine cl 98 tt rfl rfl rfl (hr := hs) (k := ?_) | refine cl 37 tt rfl rfl rfl (hr := fn) (k := ?_) | refine cl 36 tt rfl rfl rfl (hr := mu) (k := ?_) | refine cl 35 tt rfl rfl rfl (hr := fl) (k := ?_) | refine cl 34 tt rfl rfl rfl (hr := ti) (k := ?_) | refine cl 37 tt rfl rfl rfl (hr := fk) (k := ?_) | refine cl 65 tt rfl rfl rfl (hr := ck) (k := ?_) | refine cl 67 tt rfl rfl rfl (hr := a2) (k := ?_) | (refine gdLG ?_ ?_ <;> intro _ <;> try (exfalso; omega)))
        | (show awp _ _ _ _; first | refine goA ?_ | refine rg 4 6 ?_ | refine rgK 7 5 [10] ?_ | refine rg 10 6 ?_ | refine rg 12 16 ?_ | (refine cdG ?_ ?_ <;> intro _ <;> try (exfalso; omega)))
        | (show andThen _ _ _ _; refine goN ?_)
        | (show inBlock _ _ _ _; refine goB ?_)
        | (show awpR _ _ _ _ _ _ _; first | refine goR ?_ | refine clR 96 tt rfl rfl rfl (hr := hc) (k := ?_) | refine clR 97 tt rfl rfl rfl (hr := sg) (k := ?_) | refine clR 37 tt rfl rfl rfl (hr := f1) (k := ?_) | refine clR 65 tt rfl rfl rfl (hr := c1) (k := ?_) | refine clR 98 tt rfl rfl rfl (hr := hs) (k := ?_) | refine clR 37 tt rfl rfl rfl (hr := fn) (k := ?_) | refine clR 36 tt rfl rfl rfl (hr := mu) (k := ?_) | refine clR 35 tt rfl rfl rfl (hr := fl) (k := ?_) | refine clR 34 tt rfl rfl rfl (hr := ti) (k := ?_) | refine clR 37 tt rfl rfl rfl (hr := fk) (k := ?_) | refine clR 65 tt rfl rfl rfl (hr := ck) (k := ?_) | refine clR 67 tt rfl rfl rfl (hr := a2) (k := ?_) | (refine gdRG ?_ ?_ <;> intro _ <;> try (exfalso; omega)))
        | (show retPost _ _ _ _ _; refine finG ?_))
      rfl
    · clear hk zk
      refine ret_of_awp tab Tryz.func58 rfl rfl (Nat.le_of_ble_eq_true rfl) (fun w0 F0 => ?_)
      repeat' (first
        | (show awpL _ _ _ _ _; first | refine goL ?_ | refine cl 96 tt rfl rfl rfl (hr := hc) (k := ?_) | refine cl 97 tt rfl rfl rfl (hr := sg) (k := ?_) | refine cl 37 tt rfl rfl rfl (hr := f1) (k := ?_) | refine cl 65 tt rfl rfl rfl (hr := c1) (k := ?_) | refine cl 98 tt rfl rfl rfl (hr := hs) (k := ?_) | refine cl 37 tt rfl rfl rfl (hr := fn) (k := ?_) | refine cl 36 tt rfl rfl rfl (hr := mu) (k := ?_) | refine cl 35 tt rfl rfl rfl (hr := fl) (k := ?_) | refine cl 34 tt rfl rfl rfl (hr := ti) (k := ?_) | refine cl 67 tt rfl rfl rfl (hr := a2) (k := ?_) | (refine gdLG ?_ ?_ <;> intro _ <;> try (exfalso; omega)))
        | (show awp _ _ _ _; first | refine goA ?_ | refine rg 4 6 ?_ | refine rgK 7 5 [10] ?_ | refine rg 10 6 ?_ | refine rg 12 16 ?_ | (refine cdG ?_ ?_ <;> intro _ <;> try (exfalso; omega)))
        | (show andThen _ _ _ _; refine goN ?_)
        | (show inBlock _ _ _ _; refine goB ?_)
        | (show awpR _ _ _ _ _ _ _; first | refine goR ?_ | refine clR 96 tt rfl rfl rfl (hr := hc) (k := ?_) | refine clR 97 tt rfl rfl rfl (hr := sg) (k := ?_) | refine clR 37 tt rfl rfl rfl (hr := f1) (k := ?_) | refine clR 65 tt rfl rfl rfl (hr := c1) (k := ?_) | refine clR 98 tt rfl rfl rfl (hr := hs) (k := ?_) | refine clR 37 tt rfl rfl rfl (hr := fn) (k := ?_) | refine clR 36 tt rfl rfl rfl (hr := mu) (k := ?_) | refine clR 35 tt rfl rfl rfl (hr := fl) (k := ?_) | refine clR 34 tt rfl rfl rfl (hr := ti) (k := ?_) | refine clR 67 tt rfl rfl rfl (hr := a2) (k := ?_) | (refine gdRG ?_ ?_ <;> intro _ <;> try (exfalso; omega)))
        | (show retPost _ _ _ _ _; refine finG ?_))
      rfl
end Go.Proofs.YtoppaphffnojdaaGreat

/-
  States whose keys bear other names. Conditions: the table of types is the program's.
-/
set_option linter.unusedSimpArgs false
set_option linter.unusedVariables false
set_option linter.unusedSectionVars false
namespace Go.Vw
open Go.RowKit
def St.ren (σ τ : Nat → Nat) (s : St) : St := { tmps := fun t => (s.tmps t).ren σ, blk := renO σ τ s.blk, dfs := [] }
theorem SR.ren {X : Ctx} {io : Nat → Option Nat} {F : Nat → Prop} {s : St} {a : Act} {w : World} (hs : SR X io F s a w) (hd : s.dfs = []) {σ τ : Nat → Nat} (h1 : ∀ k, σ (τ k) = k) (h2 : ∀ k, τ (σ k) = k) (hK : ∀ k ∈ X.K, τ k = k) : SR X (fun k => io (τ k)) F (s.ren σ τ) a w := by
  have hne : ∀ k, (s.ren σ τ).blk k ≠ none → s.blk (τ k) ≠ none := fun k h => by
    intro e
    exact h (by simp only [St.ren, renO, e, Option.map_none])
  have hln : ∀ k, (s.ren σ τ).ln k = s.ln (τ k) := fun k => by
    cases h : s.blk (τ k) with
    | none =>
      have : (s.ren σ τ).blk k = none := by simp only [St.ren, renO, h, Option.map_none]
      unfold St.ln
      rw [this, h]
    | some b =>
      have : (s.ren σ τ).blk k = some (b.ren σ) := by simp only [St.ren, renO, h, Option.map_some]
      rw [ln_of this, ln_of h, Blk.ren_ln]
  have hkeys : (⟨fun k => ((s.ren σ τ).keys fun k => io (τ k)).io (σ k), fun k => ((s.ren σ τ).keys fun k => io (τ k)).ln (σ k)⟩ : Keys) = s.keys io := by
    show (⟨fun k => io (τ (σ k)), fun k => (s.ren σ τ).ln (σ k)⟩ : Keys) = ⟨io, s.ln⟩
    congr 1
    · funext k; rw [h2]
    · funext k; rw [hln, h2]
  refine ⟨hs.kept, fun t => ?_, hs.nt, ?_, fun k b hk => ?_, fun k k' b e1 e2 e3 e4 => ?_, hs.ff, hs.f0, fun k hk => ?_⟩
  · refine (VR.ren (io := (s.ren σ τ).keys fun k => io (τ k)) (s.tmps t) _).1 ?_
    rw [hkeys]
    exact hs.tm t
  · have := hs.df
    rw [hd] at this
    exact this
  · simp only [St.ren, renO, Option.map_eq_some_iff] at hk
    obtain ⟨b0, e0, rfl⟩ := hk
    have := hs.bl (τ k) b0 e0
    rw [← hkeys] at this
    have := BR.ren (io := (s.ren σ τ).keys fun k => io (τ k)).1 this
    rwa [h1] at this
  · have := hs.inj (τ k) (τ k') b (hne k e1) (hne k' e2) e3 e4
    have := congrArg σ this
    rwa [h1, h1] at this
  · show io (τ k) = X.io0 k
    rw [hK k hk]
    exact hs.st k hk
def renT (σ : Nat → Nat) : List (Nat × V) → List (Nat × V)
  | [] => []
  | (k, v) :: r => (k, v.ren σ) :: renT σ r
theorem lookT_ren (σ : Nat → Nat) : ∀ (l : List (Nat × V)) (t : Nat), (lookT l t).ren σ = lookT (renT σ l) t
  | [], t => rfl
  | (k, v) :: r, t => by
    simp only [lookT, renT]
    cases Nat.beq t k with
    | true => rfl
    | false => simpa using lookT_ren σ r t
theorem perm_notin : ∀ (l : List (Nat × Nat)) (k : Nat), (l.all fun p => !(Nat.beq k p.1) && !(Nat.beq k p.2)) = true → permI l k = k
  | [], k, _ => rfl
  | (a, b) :: r, k, h => by
    simp only [List.all_cons, Bool.and_eq_true, Bool.not_eq_true'] at h
    simp only [permI]
    rw [perm_notin r k (by simpa using h.2)]
    unfold swp
    rw [h.1.1, h.1.2]
    rfl
theorem awp_rekey {X : Ctx} {c : Code} {Q : Exit → St → Prop} {ts : List (Nat × V)} {bs : List (Nat × Blk)} (l : List (Nat × Nat)) {ts2 : List (Nat × V)} {bs2 : List (Nat × Blk)} (h : awp X c Q (St.of ts2 bs2)) (hK : (X.K.all fun k => l.all fun p => !(Nat.beq k p.1) && !(Nat.beq k p.2)) = true := by rfl) (e1 : renT (perm l) ts = ts2 := by rfl) (e2 : renB (perm l) bs = bs2 := by rfl) : awp X c Q (St.of ts bs) := fun io F a w hs => by
  subst e1 e2
  have := hs.ren rfl (perm_permI l) (permI_perm l) (fun k hk => perm_notin l k (by
    simp only [List.all_eq_true] at hK
    have := hK k hk
    simpa only [List.all_eq_true] using this))
  have e : (St.of ts bs).ren (perm l) (permI l) = St.of (renT (perm l) ts) (renB (perm l) bs) := by
    unfold St.ren St.of
    congr 1
    · funext t; exact lookT_ren _ _ _
    · exact lookB_ren (perm_permI l) (permI_perm l) bs
  rw [e] at this
  exact h _ F a w this
theorem awp_rename {X : Ctx} {c : Code} {Q : Exit → St → Prop} {s : St} (ts : List (Nat × V)) (bs : List (Nat × Blk)) (l : List (Nat × Nat)) (ht : AllT s ts) (hb : AllB s bs) {ts2 : List (Nat × V)} {bs2 : List (Nat × Blk)} (h : awp X c Q (St.of ts2 bs2)) (hK : (X.K.all fun k => l.all fun p => !(Nat.beq k p.1) && !(Nat.beq k p.2)) = true := by rfl) (e1 : renT (perm l) ts = ts2 := by rfl) (e2 : renB (perm l) bs = bs2 := by rfl) (hc : (coverT bs ts && coverB bs bs) = true := by rfl) : awp X c Q s :=
  awp_slots ts bs ht hb (awp_rekey l h hK e1 e2) hc
end Go.Vw
