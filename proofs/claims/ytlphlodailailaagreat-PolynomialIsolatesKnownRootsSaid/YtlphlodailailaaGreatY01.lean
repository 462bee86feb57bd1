/-
  A statement of the seat: what its contract is, and the claim. Conditions: as each says.
-/
import Derived.Test.YtlphlodailailaaGreatA08
import Derived.Test.YtlphlodailailaaGreatA10
set_option linter.unusedVariables false
set_option linter.unusedSimpArgs false
set_option maxHeartbeats 8000000
namespace Go.Proofs.YtlphlodailailaaGreat
open Go.Vw
attribute [local irreducible] awp awpL awpR

theorem rv_r0 : rv r0 = 0 := by decide +kernel
theorem ok_r0 : RatOk r0 10000000 := by
  have := ok_rq (q := 0) (k := 10000000) ⟨by decide +kernel, by decide +kernel⟩
  rwa [show rq 0 = r0 by decide +kernel] at this
theorem sign_num (q : Rat) : q.num.sign = 0 ↔ q = 0 := by
  rw [Int.sign_eq_zero_iff_zero]; exact Rat.num_eq_zero
theorem cf_rv {l : List R3} {i : Nat} (h : i < l.length) : cf (l.map rv) i = rv (l.getD i r0) := gRv h
theorem polynomial_TrimB (l : List R3) (hn : l.length ≤ 1000) (hl : ∀ r ∈ l, RatOk r 10000000) : RetB Tryz.prog 60 [.d (rsD l)] (lookB []) (qO (trimP (l.map rv)).length) (lookB [(500, qB (trimP (l.map rv)))]) := by
  obtain ⟨n, hN⟩ : ∃ n, (trimP (l.map rv)).length = n := ⟨_, rfl⟩
  have hnl : n ≤ l.length := by rw [← hN]; exact Nat.le_trans (trim_len _) (by simp)
  have ex : ∀ a, a ≤ l.length → (∀ i, a ≤ i → i < l.length → cf (l.map rv) i = 0) → (0 < a → cf (l.map rv) (a - 1) ≠ 0) → a = n := fun a h1 h2 h3 => by
    rw [← hN, trim_take (n := a) (by simpa using h1) (fun i h h' => h2 i h (by simpa using h')) h3, List.length_take, List.length_map]; omega
  have htr : trimP (l.map rv) = (l.map rv).take n := by
    refine trim_take (by simpa using hnl) (fun i h _ => ?_) (fun h => ?_)
    · rw [← cf_trim]; exact cf_ge (by omega)
    · rw [← cf_trim, ← hN]
      have := (tr_trim (l.map rv)).cf (by omega)
      exact this
  rw [hN, htr]
  refine retB_of_awp tab [] Tryz.func60 rfl rfl rfl (Nat.le_of_ble_eq_true rfl) rfl trivial (fun w0 F0 A io0 => ?_)
  repeat' (first
    | (show awpL _ _ _ _ _; first | refine goL ?_ | (refine gdLG ?_ ?_ <;> intro _ <;> try (exfalso; omega)))
    | (show awp _ _ _ _; first | refine stopA 2 tt ?_)
    | (show awp _ _ _ _; first | refine goA ?_ | (refine cdG ?_ ?_ <;> intro _ <;> try (exfalso; omega)))
    | (show andThen _ _ _ _; refine goN ?_)
    | (show inBlock _ _ _ _; refine goB ?_)
    | (show retPost _ _ _ _ _; refine finG ?_)
    | (show retPostB _ _ _ _ _ _; first | refine finB rfl rfl ?_ ?_ | refine finBT rfl rfl rfl ?_ ?_))
  refine stopOut ?_
  refine awp_meet1 (fun (_ : Unit) => ([(0, .d (rsD l)), (3, .d (.int .i64 n))], [])) (fun _ => True) (fun _ _ => ?_) ?_
  rotate_left
  · repeat' (first
      | (show awpL _ _ _ _ _; first | refine goL ?_ | (refine gdLG ?_ ?_ <;> intro _ <;> try (exfalso; omega)))
      | (show awp _ _ _ _; first | refine goA ?_ | (refine cdG ?_ ?_ <;> intro _ <;> try (exfalso; omega)))
      | (show andThen _ _ _ _; refine goN ?_)
      | (show inBlock _ _ _ _; refine goB ?_)
      | (show retPost _ _ _ _ _; refine finG ?_)
      | (show retPostB _ _ _ _ _ _; first | refine finB rfl rfl ?_ ?_ | refine finBT rfl rfl rfl ?_ ?_))
    refine awp_loop1 (fun (a : Nat) => ([(0, .d (rsD l)), (3, .d (.int .i64 a))], [])) (fun a => a ≤ l.length ∧ ∀ i, a ≤ i → i < l.length → cf (l.map rv) i = 0) (fun a => a) l.length ⟨Nat.le_refl _, fun i h1 h2 => by omega⟩ ⟨rfl, rfl, rfl⟩ trivial (fun a ha => ?_)
    obtain ⟨a1, a2⟩ := ha
    have ea : ((a : Int) - 1).toNat = a - 1 := by omega
    have e2 := ex a a1 a2
    by_cases c : 0 < a
    · have cm := rational_Sign (l.getD ((a : Int) - 1).toNat r0) (by rw [ea]; exact gMem (fun r hr => (hl r hr).up (by decide)) (by omega))
      have hz := sign_num (rv (l.getD ((a : Int) - 1).toNat r0))
      rw [ea] at hz
      rw [cf_rv (by omega)] at e2
      have a3 : rv (l.getD (a - 1) r0) = 0 → ∀ i, a - 1 ≤ i → i < l.length → cf (l.map rv) i = 0 := fun h i h1 h2 => by
        by_cases e : i = a - 1
        · rw [e, cf_rv (by omega)]; exact h
        · exact a2 i (by omega) h2
      rw [ea] at cm
      generalize (rv (l.getD (a - 1) r0)) = x at *
      generalize x.num.sign = z at *
      rw [← ea] at cm
      clear ex hl htr
      repeat' (first
        | (show awpL _ _ _ _ _; first | refine goL ?_ | refine cl 99 tt rfl rfl rfl (hr := cm) (k := ?_) | (refine gdLG ?_ ?_ <;> intro _ <;> try (exfalso; omega)))
        | (show awp _ _ _ _; first | refine goA ?_ | (refine cdG ?_ ?_ <;> intro _ <;> try (exfalso; omega)))
        | (show andThen _ _ _ _; refine goN ?_)
        | (show inBlock _ _ _ _; refine goB ?_)
        | (show retPost _ _ _ _ _; refine finG ?_)
        | (show retPostB _ _ _ _ _ _; first | refine finB rfl rfl ?_ ?_ | refine finBT rfl rfl rfl ?_ ?_))
      · exact ⟨a - 1, ⟨by omega, a3 (hz.1 ‹_›)⟩, by omega, ⟨rfl, iv (by omega), rfl⟩, trivial⟩
      · exact ⟨(), trivial, ⟨rfl, iv (by rw [e2 fun _ h => ‹¬ _› (hz.2 h)]), rfl⟩, trivial⟩
    · clear ex hl htr
      repeat' (first
        | (show awpL _ _ _ _ _; first | refine goL ?_ | (refine gdLG ?_ ?_ <;> intro _ <;> try (exfalso; omega)))
        | (show awp _ _ _ _; first | refine goA ?_ | (refine cdG ?_ ?_ <;> intro _ <;> try (exfalso; omega)))
        | (show andThen _ _ _ _; refine goN ?_)
        | (show inBlock _ _ _ _; refine goB ?_)
        | (show retPost _ _ _ _ _; refine finG ?_)
        | (show retPostB _ _ _ _ _ _; first | refine finB rfl rfl ?_ ?_ | refine finBT rfl rfl rfl ?_ ?_))
      exact ⟨(), trivial, ⟨rfl, iv (by rw [e2 fun h => absurd h c]), rfl⟩, trivial⟩
  · clear ex
    repeat' (first
      | (show awpL _ _ _ _ _; first | refine goL ?_ | (refine gdLG ?_ ?_ <;> intro _ <;> try (exfalso; omega)))
      | (show awp _ _ _ _; first | refine goA ?_ | (refine cdG ?_ ?_ <;> intro _ <;> try (exfalso; omega)))
      | (show andThen _ _ _ _; refine goN ?_)
      | (show inBlock _ _ _ _; refine goB ?_)
      | (show retPost _ _ _ _ _; refine finG ?_)
      | (show retPostB _ _ _ _ _ _; first | refine finB rfl rfl ?_ ?_ | refine finBT rfl rfl rfl ?_ ?_))
    refine awp_adopt 4 500 29 3 qC 0 rfl ?_
    refine awp_loop1 (fun (i : Nat) => ([(4, qO i), (24, .d (rsD (l.take n))), (25, .d (.int .i64 n)), (26, .d (.int .i64 i))], [(500, qB ((l.map rv).take i))])) (fun i => i ≤ n) (fun i => n - i) 0 (by omega) ⟨rfl, rfl, iv (by rw [List.length_take]; omega), rfl, rfl⟩ ⟨rfl, trivial⟩ (fun i hi => ?_)
    have hlt : (l.take n).length = n := by rw [List.length_take]; omega
    have hlq : ((l.map rv).take i).length = i := by rw [List.length_take, List.length_map]; omega
    by_cases h3 : i < n
    · have e1 : (l.take n).getD i r0 = l.getD i r0 := by simp [List.getD_eq_getElem?_getD, h3]
      have g1 := gMem hl (show i < l.length by omega)
      have ad := rational_Add ((l.take n).getD i r0) r0 (by rw [e1]; exact g1.up (by decide)) (ok_r0.up (by decide))
      rw [rv_r0, Rat.add_zero] at ad
      have et : (l.map rv).take i ++ [rv ((l.take n).getD i r0)] = (l.map rv).take (i + 1) := by
        rw [e1, List.take_add_one, List.getElem?_map, List.getD_eq_getElem?_getD, List.getElem?_eq_getElem (show i < l.length by omega)]; rfl
      generalize rv ((l.take n).getD i r0) = x at *
      clear hl htr g1 e1
      repeat' (first
        | (show awpL _ _ _ _ _; first | refine goL ?_ | refine cl 82 tt rfl rfl rfl (hr := ad) (k := ?_) | (refine gdLG ?_ ?_ <;> intro _ <;> try (exfalso; omega)))
        | (show awp _ _ _ _; first | refine goA ?_ | (refine cdG ?_ ?_ <;> intro _ <;> try (exfalso; omega)))
        | (show andThen _ _ _ _; refine goN ?_)
        | (show inBlock _ _ _ _; refine goB ?_)
        | (show retPost _ _ _ _ _; refine finG ?_)
        | (show retPostB _ _ _ _ _ _; first | refine finB rfl rfl ?_ ?_ | refine finBT rfl rfl rfl ?_ ?_))
      exact ⟨i + 1, by omega, by omega, ⟨ownEq (by rw [List.length_append, hlq]; rfl), rfl, rfl, iv (by omega), rfl⟩, blkEq et, trivial⟩
    · have e : i = n := by omega
      subst e
      clear hl htr
      repeat' (first
        | (show awpL _ _ _ _ _; first | refine goL ?_ | (refine gdLG ?_ ?_ <;> intro _ <;> try (exfalso; omega)))
        | (show awp _ _ _ _; first | refine goA ?_ | (refine cdG ?_ ?_ <;> intro _ <;> try (exfalso; omega)))
        | (show andThen _ _ _ _; refine goN ?_)
        | (show inBlock _ _ _ _; refine goB ?_)
        | (show retPost _ _ _ _ _; refine finG ?_)
        | (show retPostB _ _ _ _ _ _; first | refine finB rfl rfl ?_ ?_ | refine finBT rfl rfl rfl ?_ ?_))
      all_goals first | exact leVT | exact ⟨rfl, trivial⟩
end Go.Proofs.YtlphlodailailaaGreat
