/-
  A statement of the seat: what its contract is, and the claim. Conditions: as each says.
-/
import Derived.Test.YtoppaphffnojdaaGreatA10
import Derived.Test.YtoppaphffnojdaaGreatW07
import Derived.Test.YtoppaphffnojdaaGreatPlotsD
set_option linter.unusedVariables false
set_option linter.unusedSimpArgs false
set_option maxHeartbeats 8000000
namespace Go.Proofs.YtoppaphffnojdaaGreat
open Go.Vw
attribute [local irreducible] awp awpL awpR

theorem ref23_Clean (r : R3) (hr : RatOk r 1000) : Ret Tryz.prog 130 [rD r] (· = qD (rv r)) := by
  have ha := ref03_Add r r0 (hr.up (by decide)) (ok_r0 (by decide))
  rw [rv_r0, Rat.add_zero] at ha
  refine ret_of_awp tab Tryz.func130 rfl rfl (Nat.le_of_ble_eq_true rfl) (fun w0 F0 => ?_)
  repeat' (first
    | (show awpL _ _ _ _ _; first | refine goL ?_ | refine cl 56 tt rfl rfl rfl (hr := ha) (k := ?_) | (refine gdLG ?_ ?_ <;> intro _ <;> try (exfalso; omega)))
    | (show awp _ _ _ _; first | refine goA ?_ | (refine cdG ?_ ?_ <;> intro _ <;> try (exfalso; omega)))
    | (show andThen _ _ _ _; refine goN ?_)
    | (show inBlock _ _ _ _; refine goB ?_)
    | (show retPost _ _ _ _ _; refine finG ?_)
    | (show retPostB _ _ _ _ _ _; first | refine finB rfl rfl ?_ ?_ | refine finBT rfl rfl rfl ?_ ?_))
  all_goals rfl
theorem ref24_SortedB (l : List R3) (hn : l.length ≤ 200) (hl : ∀ r ∈ l, RatOk r 1000) : RetB Tryz.prog 90 [.d (rsD l)] (lookB []) (qO l.length) (lookB [(500, qB (srt (l.map rv)))]) := by
  have hq : ∀ q ∈ l.map rv, okQ 1000 q := fun q hq => by
    obtain ⟨r, hr, rfl⟩ := List.mem_map.1 hq
    exact okQ_rv (hl r hr) (by decide)
  refine retB_of_awp tab [] Tryz.func90 rfl rfl rfl (Nat.le_of_ble_eq_true rfl) rfl trivial (fun w0 F0 A io0 => ?_)
  repeat' (first
    | (show awpL _ _ _ _ _; first | refine goL ?_ | (refine gdLG ?_ ?_ <;> intro _ <;> try (exfalso; omega)))
    | (show awp _ _ _ _; first | refine goA ?_ | refine rg 7 9 ?_ | refine rg 10 7 ?_ | (refine cdG ?_ ?_ <;> intro _ <;> try (exfalso; omega)))
    | (show andThen _ _ _ _; refine goN ?_)
    | (show inBlock _ _ _ _; refine goB ?_)
    | (show awpR _ _ _ _ _ _ _; first | refine goR ?_ | (refine gdRG ?_ ?_ <;> intro _ <;> try (exfalso; omega)))
    | (show retPost _ _ _ _ _; refine finG ?_)
    | (show retPostB _ _ _ _ _ _; first | refine finB rfl rfl ?_ ?_ | refine finBT rfl rfl rfl ?_ ?_))
  refine awp_adopt 3 500 27 3 qC 0 rfl ?_
  refine awp_loop1 (fun (i : Nat) => ([(3, qO i), (7, .d (rsD l)), (8, .d (.int .i64 l.length)), (9, .d (.int .i64 i))], [(500, qB (srt ((l.map rv).take i)))])) (fun i => i ≤ l.length) (fun i => l.length - i) 0 (by omega) ⟨rfl, rfl, rfl, rfl, rfl⟩ ⟨blkEq (by rw [List.take_zero, srt_nil]), trivial⟩ (fun i hi => ?_)
  have hlen := srt_len ((l.map rv).take i)
  rw [List.length_take, List.length_map, show min i l.length = i by omega] at hlen
  by_cases h3 : i < l.length
  · have g1 := gMem hl h3
    have ho := srt_ok (takeQ_ok hq i)
    have hasc := srt_asc ((l.map rv).take i)
    have hins := ins_srt (l := l.map rv) (i := i) (by rw [List.length_map]; exact h3)
    rw [gRv h3] at hins
    generalize srt ((l.map rv).take i) = s at *
    obtain ⟨s2, hs2⟩ : ∃ s2, srt ((l.map rv).take (i + 1)) = s2 := ⟨_, rfl⟩
    rw [hs2] at hins
    have hc := ref23_Clean (l.getD i r0) g1
    have oq : okQ 1000 (rv (l.getD i r0)) := okQ_rv g1 (by decide)
    generalize rv (l.getD i r0) = x at *
    obtain ⟨p, hp⟩ : ∃ p, posQ x s = p := ⟨_, rfl⟩
    have hp2 := posQ_le x s
    unfold insQ at hins
    rw [hp] at hp2 hins
    repeat' (first
      | (show awpL _ _ _ _ _; first | refine goL ?_ | refine cl 130 tt rfl rfl rfl (hr := hc) (k := ?_) | (refine gdLG ?_ ?_ <;> intro _ <;> try (exfalso; omega)))
      | (show awp _ _ _ _; first | refine stopA 7 tt ?_)
      | (show awp _ _ _ _; first | refine goA ?_ | refine rg 7 9 ?_ | refine rg 10 7 ?_ | (refine cdG ?_ ?_ <;> intro _ <;> try (exfalso; omega)))
      | (show andThen _ _ _ _; refine goN ?_)
      | (show inBlock _ _ _ _; refine goB ?_)
      | (show awpR _ _ _ _ _ _ _; first | refine goR ?_ | refine clR 130 tt rfl rfl rfl (hr := hc) (k := ?_) | (refine gdRG ?_ ?_ <;> intro _ <;> try (exfalso; omega)))
      | (show retPost _ _ _ _ _; refine finG ?_)
      | (show retPostB _ _ _ _ _ _; first | refine finB rfl rfl ?_ ?_ | refine finBT rfl rfl rfl ?_ ?_))
    refine stopOut ?_
    refine awp_meet1 (fun (_ : Unit) => ([(3, qO i), (5, .ptr 5 0), (6, .d (.int .i64 p)), (7, .d (rsD l)), (8, .d (.int .i64 l.length)), (9, .d (.int .i64 i))], [(500, qB s), (5, .box 27 ((rC (rq x)).map V.d))])) (fun _ => True) (fun _ _ => ?_) ?_
    rotate_left
    · repeat' (first
        | (show awpL _ _ _ _ _; first | refine goL ?_ | (refine gdLG ?_ ?_ <;> intro _ <;> try (exfalso; omega)))
        | (show awp _ _ _ _; first | refine goA ?_ | refine rg 7 9 ?_ | refine rg 10 7 ?_ | (refine cdG ?_ ?_ <;> intro _ <;> try (exfalso; omega)))
        | (show andThen _ _ _ _; refine goN ?_)
        | (show inBlock _ _ _ _; refine goB ?_)
        | (show awpR _ _ _ _ _ _ _; first | refine goR ?_ | (refine gdRG ?_ ?_ <;> intro _ <;> try (exfalso; omega)))
        | (show retPost _ _ _ _ _; refine finG ?_)
        | (show retPostB _ _ _ _ _ _; first | refine finB rfl rfl ?_ ?_ | refine finBT rfl rfl rfl ?_ ?_))
      refine awp_loop1 (fun (a : Nat) => ([(3, qO i), (5, .ptr 5 0), (6, .d (.int .i64 a)), (7, .d (rsD l)), (8, .d (.int .i64 l.length)), (9, .d (.int .i64 i))], [(500, qB s), (5, .box 27 ((rC (rq x)).map V.d))])) (fun a => a ≤ i ∧ (a < i → x < s.getD a 0)) (fun a => a) i ⟨Nat.le_refl _, fun h => absurd h (Nat.lt_irrefl _)⟩ ⟨rfl, rfl, rfl, rfl, rfl, rfl, rfl⟩ ⟨rfl, rfl, trivial⟩ (fun a ha => ?_)
      obtain ⟨a1, a2⟩ := ha
      have done : (0 < a → s.getD (a - 1) 0 ≤ x) → a = p := fun h => by
        rw [← hp]
        symm
        refine posQ_eq (by omega) (fun j hj => ?_) (fun h => a2 (by omega))
        exact Rat.le_trans (asc_getD hasc (show j ≤ a - 1 by omega) (by omega)) (h (by omega))
      have ea : ((a : Int) - 1).toNat = a - 1 := by omega
      by_cases c1 : 0 < a
      · have cm := ref03_Compare (rq (s.getD ((a : Int) - 1).toNat 0)) (rq x) (ok_rq ((getD_ok ho (by omega)).mono (by decide))) (ok_rq (oq.mono (by decide)))
        rw [rv_rq, rv_rq] at cm
        have hcp := cmpQ_pos (s.getD ((a : Int) - 1).toNat 0) x
        have hcr := cmpQ_range (s.getD ((a : Int) - 1).toNat 0) x
        by_cases g : x < s.getD ((a : Int) - 1).toNat 0
        · have hz := hcp.2 g
          generalize cmpQ (s.getD ((a : Int) - 1).toNat 0) x = z at *
          clear hcp
          repeat' (first
            | (show awpL _ _ _ _ _; first | refine goL ?_ | refine cl 20 tt rfl rfl rfl (hr := cm) (k := ?_) | (refine gdLG ?_ ?_ <;> intro _ <;> try (exfalso; omega)))
            | (show awp _ _ _ _; first | refine goA ?_ | refine rg 7 9 ?_ | refine rg 10 7 ?_ | (refine cdG ?_ ?_ <;> intro _ <;> try (exfalso; omega)))
            | (show andThen _ _ _ _; refine goN ?_)
            | (show inBlock _ _ _ _; refine goB ?_)
            | (show awpR _ _ _ _ _ _ _; first | refine goR ?_ | refine clR 20 tt rfl rfl rfl (hr := cm) (k := ?_) | (refine gdRG ?_ ?_ <;> intro _ <;> try (exfalso; omega)))
            | (show retPost _ _ _ _ _; refine finG ?_)
            | (show retPostB _ _ _ _ _ _; first | refine finB rfl rfl ?_ ?_ | refine finBT rfl rfl rfl ?_ ?_))
          exact ⟨a - 1, ⟨by omega, fun _ => by rw [← ea]; exact g⟩, by omega, ⟨rfl, rfl, iv (by omega), rfl, rfl, rfl, rfl⟩, rfl, rfl, trivial⟩
        · have hz : ¬ 0 < cmpQ (s.getD ((a : Int) - 1).toNat 0) x := fun h => g (hcp.1 h)
          have hap := done fun _ => by rw [← ea]; exact Rat.not_lt.1 g
          generalize cmpQ (s.getD ((a : Int) - 1).toNat 0) x = z at *
          clear hcp done
          repeat' (first
            | (show awpL _ _ _ _ _; first | refine goL ?_ | refine cl 20 tt rfl rfl rfl (hr := cm) (k := ?_) | (refine gdLG ?_ ?_ <;> intro _ <;> try (exfalso; omega)))
            | (show awp _ _ _ _; first | refine goA ?_ | refine rg 7 9 ?_ | refine rg 10 7 ?_ | (refine cdG ?_ ?_ <;> intro _ <;> try (exfalso; omega)))
            | (show andThen _ _ _ _; refine goN ?_)
            | (show inBlock _ _ _ _; refine goB ?_)
            | (show awpR _ _ _ _ _ _ _; first | refine goR ?_ | refine clR 20 tt rfl rfl rfl (hr := cm) (k := ?_) | (refine gdRG ?_ ?_ <;> intro _ <;> try (exfalso; omega)))
            | (show retPost _ _ _ _ _; refine finG ?_)
            | (show retPostB _ _ _ _ _ _; first | refine finB rfl rfl ?_ ?_ | refine finBT rfl rfl rfl ?_ ?_))
          exact ⟨(), trivial, ⟨rfl, rfl, iv (by omega), rfl, rfl, rfl, rfl⟩, rfl, rfl, trivial⟩
      · have hap := done fun h => absurd h c1
        clear done
        repeat' (first
          | (show awpL _ _ _ _ _; first | refine goL ?_ | (refine gdLG ?_ ?_ <;> intro _ <;> try (exfalso; omega)))
          | (show awp _ _ _ _; first | refine goA ?_ | refine rg 7 9 ?_ | refine rg 10 7 ?_ | (refine cdG ?_ ?_ <;> intro _ <;> try (exfalso; omega)))
          | (show andThen _ _ _ _; refine goN ?_)
          | (show inBlock _ _ _ _; refine goB ?_)
          | (show awpR _ _ _ _ _ _ _; first | refine goR ?_ | (refine gdRG ?_ ?_ <;> intro _ <;> try (exfalso; omega)))
          | (show retPost _ _ _ _ _; refine finG ?_)
          | (show retPostB _ _ _ _ _ _; first | refine finB rfl rfl ?_ ?_ | refine finBT rfl rfl rfl ?_ ?_))
        exact ⟨(), trivial, ⟨rfl, rfl, iv (by omega), rfl, rfl, rfl, rfl⟩, rfl, rfl, trivial⟩
    clear hp
    have hl2 : (s ++ [(0 : Rat)]).length = i + 1 := by rw [List.length_append, hlen]; rfl
    repeat' (first
      | (show awpL _ _ _ _ _; first | refine goL ?_ | (refine gdLG ?_ ?_ <;> intro _ <;> try (exfalso; omega)))
      | (show awp _ _ _ _; first | refine goA ?_ | refine rg 7 9 ?_ | refine rg 10 7 ?_ | (refine cdG ?_ ?_ <;> intro _ <;> try (exfalso; omega)))
      | (show andThen _ _ _ _; refine goN ?_)
      | (show inBlock _ _ _ _; refine goB ?_)
      | (show awpR _ _ _ _ _ _ _; first | refine goR ?_ | (refine gdRG ?_ ?_ <;> intro _ <;> try (exfalso; omega)))
      | (show retPost _ _ _ _ _; refine finG ?_)
      | (show retPostB _ _ _ _ _ _; first | refine finB rfl rfl ?_ ?_ | refine finBT rfl rfl rfl ?_ ?_))
    refine stepApp rfl rfl rfl rfl rfl rfl rfl rfl rfl rfl rfl rfl rfl (by omega) (src_lit (a := 0) (l := []) rfl (LeR.cons rfl (by show LeL _ (rC (rq 0)); rw [rq_zero]; exact leL) LeR.nil)) (by rw [hlen]; simp; omega) ?_
    repeat' (first
      | (show awpL _ _ _ _ _; first | refine goL ?_ | (refine gdLG ?_ ?_ <;> intro _ <;> try (exfalso; omega)))
      | (show awp _ _ _ _; first | refine stopA 10 tt ?_)
      | (show awp _ _ _ _; first | refine goA ?_ | refine rg 7 9 ?_ | refine rg 10 7 ?_ | (refine cdG ?_ ?_ <;> intro _ <;> try (exfalso; omega)))
      | (show andThen _ _ _ _; refine goN ?_)
      | (show inBlock _ _ _ _; refine goB ?_)
      | (show awpR _ _ _ _ _ _ _; first | refine goR ?_ | (refine gdRG ?_ ?_ <;> intro _ <;> try (exfalso; omega)))
      | (show retPost _ _ _ _ _; refine finG ?_)
      | (show retPostB _ _ _ _ _ _; first | refine finB rfl rfl ?_ ?_ | refine finBT rfl rfl rfl ?_ ?_))
    refine stopOut ?_
    refine awp_slots [(3, qO (i + 1)), (5, .ptr 5 0), (6, .d (.int .i64 p)), (7, .d (rsD l)), (8, .d (.int .i64 l.length)), (9, .d (.int .i64 i))] [(500, qB (s ++ [(0 : Rat)])), (5, .box 27 ((rC (rq x)).map V.d))] ⟨ownEq hl2, rfl, rfl, rfl, rfl, rfl, rfl⟩ ⟨rfl, rfl, trivial⟩ ?_
    by_cases hpi : p < i
    · have hcl := copyL_len (l := s ++ [(0 : Rat)]) (l2 := cut p (i + 1 - p) (s ++ [(0 : Rat)])) (o := p + 1) (n := i + 1 - (p + 1)) (by omega)
      have hci := copy_ins' s hp2 (n := i + 1 - (p + 1)) (m := i + 1 - p) (by omega) (by omega) x
      repeat' (first
        | (show awpL _ _ _ _ _; first | refine goL ?_ | (refine gdLG ?_ ?_ <;> intro _ <;> try (exfalso; omega)))
        | (show awp _ _ _ _; first | refine goA ?_ | refine rg 7 9 ?_ | refine rg 10 7 ?_ | (refine cdG ?_ ?_ <;> intro _ <;> try (exfalso; omega)))
        | (show andThen _ _ _ _; refine goN ?_)
        | (show inBlock _ _ _ _; refine goB ?_)
        | (show awpR _ _ _ _ _ _ _; first | refine goR ?_ | (refine gdRG ?_ ?_ <;> intro _ <;> try (exfalso; omega)))
        | (show retPost _ _ _ _ _; refine finG ?_)
        | (show retPostB _ _ _ _ _ _; first | refine finB rfl rfl ?_ ?_ | refine finBT rfl rfl rfl ?_ ?_))
      refine stepCopy rfl rfl rfl rfl rfl rfl rfl rfl rfl rfl ?_ (srcz_own rfl) ?_
      · show p + 1 + (i + 1 - (p + 1)) ≤ (s ++ [(0 : Rat)]).length
        rw [hl2]; omega
      repeat' (first
        | (show awpL _ _ _ _ _; first | refine goL ?_ | (refine gdLG ?_ ?_ <;> intro _ <;> try (exfalso; omega)))
        | (show awp _ _ _ _; first | refine stopA 11 tt ?_)
        | (show awp _ _ _ _; first | refine goA ?_ | refine rg 7 9 ?_ | refine rg 10 7 ?_ | (refine cdG ?_ ?_ <;> intro _ <;> try (exfalso; omega)))
        | (show andThen _ _ _ _; refine goN ?_)
        | (show inBlock _ _ _ _; refine goB ?_)
        | (show awpR _ _ _ _ _ _ _; first | refine goR ?_ | (refine gdRG ?_ ?_ <;> intro _ <;> try (exfalso; omega)))
        | (show retPost _ _ _ _ _; refine finG ?_)
        | (show retPostB _ _ _ _ _ _; first | refine finB rfl rfl ?_ ?_ | refine finBT rfl rfl rfl ?_ ?_))
      refine stopOut ?_
      generalize hcg : copyL (s ++ [(0 : Rat)]) (p + 1) (i + 1 - (p + 1)) (cut p (i + 1 - p) (s ++ [(0 : Rat)])) = cp at *
      refine awp_slots [(3, qO (i + 1)), (5, .ptr 5 0), (6, .d (.int .i64 p)), (7, .d (rsD l)), (8, .d (.int .i64 l.length)), (9, .d (.int .i64 i))] [(500, qB cp), (5, .box 27 ((rC (rq x)).map V.d))] ⟨rfl, rfl, rfl, rfl, rfl, rfl, rfl⟩ ⟨blkEq hcg, rfl, trivial⟩ ?_
      rw [hl2] at hcl
      repeat' (first
        | (show awpL _ _ _ _ _; first | refine goL ?_ | (refine gdLG ?_ ?_ <;> intro _ <;> try (exfalso; omega)))
        | (show awp _ _ _ _; first | refine goA ?_ | refine rg 7 9 ?_ | refine rg 10 7 ?_ | (refine cdG ?_ ?_ <;> intro _ <;> try (exfalso; omega)))
        | (show andThen _ _ _ _; refine goN ?_)
        | (show inBlock _ _ _ _; refine goB ?_)
        | (show awpR _ _ _ _ _ _ _; first | refine goR ?_ | (refine gdRG ?_ ?_ <;> intro _ <;> try (exfalso; omega)))
        | (show retPost _ _ _ _ _; refine finG ?_)
        | (show retPostB _ _ _ _ _ _; first | refine finB rfl rfl ?_ ?_ | refine finBT rfl rfl rfl ?_ ?_))
      exact ⟨i + 1, by omega, by omega, ⟨rfl, rfl, rfl, iv (by omega), rfl⟩, blkEq (hci.trans (hins.trans hs2.symm)), trivial⟩
    · have hpe : p = i := by omega
      subst hpe
      have hci : (s ++ [(0 : Rat)]).set p x = s2 := by
        rw [← hins, List.set_append_right _ _ (by omega), show p - s.length = 0 by omega, List.take_of_length_le (by omega), List.drop_of_length_le (by omega)]
        simp
      repeat' (first
        | (show awpL _ _ _ _ _; first | refine goL ?_ | (refine gdLG ?_ ?_ <;> intro _ <;> try (exfalso; omega)))
        | (show awp _ _ _ _; first | refine goA ?_ | refine rg 7 9 ?_ | refine rg 10 7 ?_ | (refine cdG ?_ ?_ <;> intro _ <;> try (exfalso; omega)))
        | (show andThen _ _ _ _; refine goN ?_)
        | (show inBlock _ _ _ _; refine goB ?_)
        | (show awpR _ _ _ _ _ _ _; first | refine goR ?_ | (refine gdRG ?_ ?_ <;> intro _ <;> try (exfalso; omega)))
        | (show retPost _ _ _ _ _; refine finG ?_)
        | (show retPostB _ _ _ _ _ _; first | refine finB rfl rfl ?_ ?_ | refine finBT rfl rfl rfl ?_ ?_))
      refine stepREnd rfl rfl rfl rfl rfl rfl rfl rfl (by omega) (by omega) rfl rfl ?_
      repeat' (first
        | (show awpL _ _ _ _ _; first | refine goL ?_ | (refine gdLG ?_ ?_ <;> intro _ <;> try (exfalso; omega)))
        | (show awp _ _ _ _; first | refine goA ?_ | refine rg 7 9 ?_ | refine rg 10 7 ?_ | (refine cdG ?_ ?_ <;> intro _ <;> try (exfalso; omega)))
        | (show andThen _ _ _ _; refine goN ?_)
        | (show inBlock _ _ _ _; refine goB ?_)
        | (show awpR _ _ _ _ _ _ _; first | refine goR ?_ | (refine gdRG ?_ ?_ <;> intro _ <;> try (exfalso; omega)))
        | (show retPost _ _ _ _ _; refine finG ?_)
        | (show retPostB _ _ _ _ _ _; first | refine finB rfl rfl ?_ ?_ | refine finBT rfl rfl rfl ?_ ?_))
      refine stepCopy0 rfl rfl rfl rfl rfl rfl rfl rfl rfl ?_
      repeat' (first
        | (show awpL _ _ _ _ _; first | refine goL ?_ | (refine gdLG ?_ ?_ <;> intro _ <;> try (exfalso; omega)))
        | (show awp _ _ _ _; first | refine goA ?_ | refine rg 7 9 ?_ | refine rg 10 7 ?_ | (refine cdG ?_ ?_ <;> intro _ <;> try (exfalso; omega)))
        | (show andThen _ _ _ _; refine goN ?_)
        | (show inBlock _ _ _ _; refine goB ?_)
        | (show awpR _ _ _ _ _ _ _; first | refine goR ?_ | (refine gdRG ?_ ?_ <;> intro _ <;> try (exfalso; omega)))
        | (show retPost _ _ _ _ _; refine finG ?_)
        | (show retPostB _ _ _ _ _ _; first | refine finB rfl rfl ?_ ?_ | refine finBT rfl rfl rfl ?_ ?_))
      exact ⟨p + 1, by omega, by omega, ⟨rfl, rfl, rfl, iv (by omega), rfl⟩, blkEq (hci.trans hs2.symm), trivial⟩
  · have e : (l.map rv).take i = l.map rv := List.take_of_length_le (by rw [List.length_map]; omega)
    have hi' : i = l.length := by omega
    subst hi'
    rw [e] at hlen ⊢
    repeat' (first
      | (show awpL _ _ _ _ _; first | refine goL ?_ | (refine gdLG ?_ ?_ <;> intro _ <;> try (exfalso; omega)))
      | (show awp _ _ _ _; first | refine goA ?_ | refine rg 7 9 ?_ | refine rg 10 7 ?_ | (refine cdG ?_ ?_ <;> intro _ <;> try (exfalso; omega)))
      | (show andThen _ _ _ _; refine goN ?_)
      | (show inBlock _ _ _ _; refine goB ?_)
      | (show awpR _ _ _ _ _ _ _; first | refine goR ?_ | (refine gdRG ?_ ?_ <;> intro _ <;> try (exfalso; omega)))
      | (show retPost _ _ _ _ _; refine finG ?_)
      | (show retPostB _ _ _ _ _ _; first | refine finB rfl rfl ?_ ?_ | refine finBT rfl rfl rfl ?_ ?_))
    all_goals first | exact leVT | exact ⟨rfl, trivial⟩
theorem exact_Over (a b : Int) (ha : -1000000 ≤ a) (ha2 : a < 1000000) (hb : 0 < b) (hb2 : b < 1000000) : Ret Tryz.prog 59 [.int .i64 a, .int .i64 b] (· = qD ((a : Rat) / (b : Rat))) := by
  have f1 := rational_FromIntW a (by omega) (by omega)
  have f2 := rational_FromIntW b (by omega) (by omega)
  have hq := exact_QuotientQ (a : Rat) (b : Rat) ((ok_intW (by omega)).mono (by decide)) ((ok_intW (by omega)).mono (by decide)) (fun h => by
    have : (b : Rat) = ((0 : Int) : Rat) := h
    have := Rat.intCast_inj.1 this
    omega)
  refine ret_of_awp tab Tryz.func59 rfl rfl (Nat.le_of_ble_eq_true rfl) (fun w0 F0 => ?_)
  repeat' (first
    | (show awpL _ _ _ _ _; first | refine goL ?_ | refine cl 37 tt rfl rfl rfl (hr := f1) (k := ?_) | refine cl 37 tt rfl rfl rfl (hr := f2) (k := ?_) | refine cl 32 tt rfl rfl rfl (hr := hq) (k := ?_) | (refine gdLG ?_ ?_ <;> intro _ <;> try (exfalso; omega)))
    | (show awp _ _ _ _; first | refine goA ?_ | (refine cdG ?_ ?_ <;> intro _ <;> try (exfalso; omega)))
    | (show andThen _ _ _ _; refine goN ?_)
    | (show inBlock _ _ _ _; refine goB ?_)
    | (show retPost _ _ _ _ _; refine finG ?_)
    | (show retPostB _ _ _ _ _ _; first | refine finB rfl rfl ?_ ?_ | refine finBT rfl rfl rfl ?_ ?_))
  all_goals rfl
theorem ref40_line (z : List Int) (hn : z.length ≤ 1000) (hz : ∀ x ∈ z, 0 ≤ x ∧ x ≤ 1000) : Ret Tryz.prog 54 [i64s z] (· = .str (lineB z ++ [10])) := by
  refine ret_of_awp tab Tryz.func54 rfl rfl (Nat.le_of_ble_eq_true rfl) (fun w0 F0 => ?_)
  repeat' (first
    | (show awpL _ _ _ _ _; first | refine goL ?_ | (refine gdLG ?_ ?_ <;> intro _ <;> try (exfalso; omega)))
    | (show awp _ _ _ _; first | refine goA ?_ | (refine cdG ?_ ?_ <;> intro _ <;> try (exfalso; omega)))
    | (show andThen _ _ _ _; refine goN ?_)
    | (show inBlock _ _ _ _; refine goB ?_)
    | (show retPost _ _ _ _ _; refine finG ?_)
    | (show retPostB _ _ _ _ _ _; first | refine finB rfl rfl ?_ ?_ | refine finBT rfl rfl rfl ?_ ?_))
  refine awp_adopt 3 500 5 1 eB 0 rfl ?_
  refine awp_loop1 (fun (i : Nat) => ([(3, .own 500 0 i 5 1), (6, .d (i64s z)), (7, .d (.int .i64 z.length)), (8, .d (.int .i64 i))], [(500, .data 5 1 eB 0 ((lineB z).take i))])) (fun i => i ≤ z.length) (fun i => z.length - i) 0 (by omega) ⟨rfl, rfl, rfl, rfl, rfl⟩ ⟨rfl, trivial⟩ (fun i hi => ?_)
  have hlen : ((lineB z).take i).length = i := by rw [List.length_take, lineB_len]; omega
  by_cases h3 : i < z.length
  · have hg := getD_bd hz h3
    have hm := ref40_mark (z.getD i 0) hg.1 (by omega)
    have hmb := markZ_bd hg.1
    have e : (lineB z).take i ++ [UInt8.ofNat (markZ (z.getD i 0)).toNat] = (lineB z).take (i + 1) := by
      rw [List.take_add_one, ← lineB_getD h3]
      simp [List.getD_eq_getElem?_getD, lineB_len, h3]
    repeat' (first
      | (show awpL _ _ _ _ _; first | refine goL ?_ | refine cl 91 tt rfl rfl rfl (hr := hm) (k := ?_) | (refine gdLG ?_ ?_ <;> intro _ <;> try (exfalso; omega)))
      | (show awp _ _ _ _; first | refine goA ?_ | (refine cdG ?_ ?_ <;> intro _ <;> try (exfalso; omega)))
      | (show andThen _ _ _ _; refine goN ?_)
      | (show inBlock _ _ _ _; refine goB ?_)
      | (show retPost _ _ _ _ _; refine finG ?_)
      | (show retPostB _ _ _ _ _ _; first | refine finB rfl rfl ?_ ?_ | refine finBT rfl rfl rfl ?_ ?_))
    exact ⟨i + 1, by omega, by omega, ⟨ownEq (by rw [List.length_append, hlen]; rfl), rfl, rfl, iv (by omega), rfl⟩, blkEq e, trivial⟩
  · have e : (lineB z).take i = lineB z := List.take_of_length_le (by rw [lineB_len]; omega)
    rw [e] at hlen ⊢
    have hcut : cut 0 i (lineB z) = lineB z := by rw [← hlen]; exact cut_all _
    have hcl2 : (cut 0 i (lineB z)).length = i := by rw [hcut]; exact hlen
    repeat' (first
      | (show awpL _ _ _ _ _; first | refine goL ?_ | (refine gdLG ?_ ?_ <;> intro _ <;> try (exfalso; omega)))
      | (show awp _ _ _ _; first | refine goA ?_ | (refine cdG ?_ ?_ <;> intro _ <;> try (exfalso; omega)))
      | (show andThen _ _ _ _; refine goN ?_)
      | (show inBlock _ _ _ _; refine goB ?_)
      | (show retPost _ _ _ _ _; refine finG ?_)
      | (show retPostB _ _ _ _ _ _; first | refine finB rfl rfl ?_ ?_ | refine finBT rfl rfl rfl ?_ ?_))
    all_goals rw [hcut]
end Go.Proofs.YtoppaphffnojdaaGreat
