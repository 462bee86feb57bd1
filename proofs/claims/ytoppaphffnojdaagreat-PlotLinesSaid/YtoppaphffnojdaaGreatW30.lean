/-
  A statement of the seat: what its contract is, and the claim. Conditions: as each says.
-/
import Derived.Test.YtoppaphffnojdaaGreatW29
import Derived.Test.YtoppaphffnojdaaGreatW08
import Derived.Test.YtoppaphffnojdaaGreatA10
set_option linter.unusedVariables false
set_option linter.unusedSimpArgs false
set_option maxHeartbeats 16000000
namespace Go.Proofs.YtoppaphffnojdaaGreat
open Go.Vw
attribute [local irreducible] awp awpL awpR

theorem ref40_Strip (vs : List R3) (lo hi : R3) (c : Int) (hn : vs.length < 9223372036854775807) (hvs : vs.length ≤ 64 → ∀ r ∈ vs, RatOk r 100) (hl : RatOk lo 100) (hh : RatOk hi 100) (h1 : -9223372036854775808 ≤ c) (h2 : c < 9223372036854775808) : Ret Tryz.prog 61 [rsD vs, rD lo, rD hi, .int .i64 c] (· = if chk vs.length (rv lo) (rv hi) c 1 = 0 then .tup [.str (lineB (countsZ (rv lo) (rv hi) c (vs.map rv)) ++ [10]), .int .i64 0] else .tup [.str [], .int .i64 (chk vs.length (rv lo) (rv hi) c 1)]) := by
  have hk := ref40_check vs lo hi c 1 hn hl hh
  by_cases he : chk vs.length (rv lo) (rv hi) c 1 = 0
  · rw [if_pos he]
    rw [he] at hk
    obtain ⟨n1, n2, _, n4, n5, _⟩ := chk_zero he
    obtain ⟨w, rfl⟩ : ∃ w : Nat, c = w := ⟨c.toNat, by omega⟩
    have hcn := ref40_counts vs lo hi w (by omega) (hvs (by omega)) hl hh (by omega)
    have hbd := counts_bd (rv lo) (rv hi) w (vs.map rv)
    have hcl := counts_len (rv lo) (rv hi) w (vs.map rv)
    rw [List.length_map] at hbd
    rw [Int.toNat_natCast] at hcl
    have hli := ref40_line (countsZ (rv lo) (rv hi) w (vs.map rv)) (by omega) (fun x hx => ⟨(hbd x hx).1, by have := (hbd x hx).2; omega⟩)
    generalize countsZ (rv lo) (rv hi) w (vs.map rv) = cz at *
    clear he
    generalize lineB cz ++ [10] = s at *
    refine ret_of_awp tab Tryz.func61 rfl rfl (Nat.le_of_ble_eq_true rfl) (fun w0 F0 => ?_)
    repeat' (first
      | (show awpL _ _ _ _ _; first | refine goL ?_ | refine cl 52 tt rfl rfl rfl (hr := hk) (k := ?_) | refine cl 100 tt rfl rfl rfl (hr := hcn) (k := ?_) | refine cl 54 tt rfl rfl rfl (hr := hli) (k := ?_) | (refine gdLG ?_ ?_ <;> intro _ <;> try (exfalso; omega)))
      | (show awp _ _ _ _; first | refine goA ?_ | (refine cdG ?_ ?_ <;> intro _ <;> try (exfalso; omega)))
      | (show andThen _ _ _ _; refine goN ?_)
      | (show inBlock _ _ _ _; refine goB ?_)
      | (show retPost _ _ _ _ _; refine finG ?_)
      | (show retPostB _ _ _ _ _ _; first | refine finB rfl rfl ?_ ?_ | refine finBT rfl rfl rfl ?_ ?_))
    rfl
  · rw [if_neg he]
    generalize chk vs.length (rv lo) (rv hi) c 1 = e at *
    refine ret_of_awp tab Tryz.func61 rfl rfl (Nat.le_of_ble_eq_true rfl) (fun w0 F0 => ?_)
    repeat' (first
      | (show awpL _ _ _ _ _; first | refine goL ?_ | refine cl 52 tt rfl rfl rfl (hr := hk) (k := ?_) | (refine gdLG ?_ ?_ <;> intro _ <;> try (exfalso; omega)))
      | (show awp _ _ _ _; first | refine goA ?_ | (refine cdG ?_ ?_ <;> intro _ <;> try (exfalso; omega)))
      | (show andThen _ _ _ _; refine goN ?_)
      | (show inBlock _ _ _ _; refine goB ?_)
      | (show retPost _ _ _ _ _; refine finG ?_)
      | (show retPostB _ _ _ _ _ _; first | refine finB rfl rfl ?_ ?_ | refine finBT rfl rfl rfl ?_ ?_))
    all_goals rfl
theorem iteTup (p : Prop) [Decidable p] (s : List UInt8) (e : Int) : (if p then D.tup [.str s, .int .i64 0] else D.tup [.str [], .int .i64 e]) = D.tup [.str (if p then s else []), .int .i64 (if p then 0 else e)] := by split <;> rfl
theorem law40_lines (vs : List R3) (lo hi : R3) (b c : Int) (hn : vs.length < 9223372036854775807) (hvs : vs.length ≤ 64 → ∀ r ∈ vs, RatOk r 100) (hl : RatOk lo 100) (hh : RatOk hi 100) (h1 : -9223372036854775808 ≤ c) (h2 : c < 9223372036854775808) (h3 : -9223372036854775808 ≤ b) (h4 : b < 9223372036854775808) : Ret Tryz.prog 30 [rsD vs, rD lo, rD hi, .int .i64 b, .int .i64 c] (· = .bool true) := by
  have a1 := plot_Strip vs lo hi c hn hvs hl hh h1 h2
  have a2 := ref40_Strip vs lo hi c hn hvs hl hh h1 h2
  have b1 := plot_Histogram vs lo hi b c hn hvs hl hh h1 h2 h3 h4
  have b2 := ref40_Histogram vs lo hi b c hn hvs hl hh h1 h2 h3 h4
  have c1 := plot_Box vs lo hi c hn hvs hl hh h1 h2
  have c2 := ref40_Box vs lo hi c hn hvs hl hh h1 h2
  rw [iteTup] at a1 a2 b1 b2 c1 c2
  generalize (if chk vs.length (rv lo) (rv hi) c 1 = 0 then lineB (countsZ (rv lo) (rv hi) c (vs.map rv)) ++ [10] else []) = s1 at *
  generalize (if chk vs.length (rv lo) (rv hi) c 1 = 0 then boxB (rv lo) (rv hi) c.toNat (vs.map rv) ++ [10] else []) = s3 at *
  generalize (if chk vs.length (rv lo) (rv hi) c 1 = 0 then (0 : Int) else chk vs.length (rv lo) (rv hi) c 1) = e1 at *
  generalize (if chk vs.length (rv lo) (rv hi) c b = 0 then histB (mostZ (countsZ (rv lo) (rv hi) b (vs.map rv))) c.toNat (countsZ (rv lo) (rv hi) b (vs.map rv)) else []) = s2 at *
  generalize (if chk vs.length (rv lo) (rv hi) c b = 0 then (0 : Int) else chk vs.length (rv lo) (rv hi) c b) = e2 at *
  refine ret_of_awp tab Tryz.func30 rfl rfl (Nat.le_of_ble_eq_true rfl) (fun w0 F0 => ?_)
  repeat' (first
    | (show awpL _ _ _ _ _; first | refine goL ?_ | refine cl 19 tt rfl rfl rfl (hr := a1) (k := ?_) | refine cl 61 tt rfl rfl rfl (hr := a2) (k := ?_) | refine cl 62 tt rfl rfl rfl (hr := b1) (k := ?_) | refine cl 63 tt rfl rfl rfl (hr := b2) (k := ?_) | refine cl 29 tt rfl rfl rfl (hr := c1) (k := ?_) | refine cl 64 tt rfl rfl rfl (hr := c2) (k := ?_) | (refine gdLG ?_ ?_ <;> intro _ <;> try (exfalso; omega)))
    | (show awp _ _ _ _; first | refine goA ?_ | (refine cdG ?_ ?_ <;> intro _ <;> try (exfalso; omega)))
    | (show andThen _ _ _ _; refine goN ?_)
    | (show inBlock _ _ _ _; refine goB ?_)
    | (show retPost _ _ _ _ _; refine finG ?_)
    | (show retPostB _ _ _ _ _ _; first | refine finB rfl rfl ?_ ?_ | refine finBT rfl rfl rfl ?_ ?_))
  all_goals first | rfl | (rename_i hc; exact absurd rfl hc) | simp
abbrev ok20 (x : R3) : Prop := RatOk x 20
noncomputable def oddW (l : List Int) (a : Nat) : R3 × Nat := Classical.epsilon fun p : R3 × Nat => ok20 p.1 ∧ p.2 ≤ l.length ∧ RetB Tryz.prog 11 [.ptr 1000 0] (lookB [(1000, tp l a)]) (.d (rD p.1)) (lookB [(1000, tp l p.2)])
theorem oddW_spec (l : List Int) (a : Nat) (hl : l.length ≤ 400) (hx : I64 l) (ha : a ≤ l.length) : ok20 (oddW l a).1 ∧ (oddW l a).2 ≤ l.length ∧ RetB Tryz.prog 11 [.ptr 1000 0] (lookB [(1000, tp l a)]) (.d (rD (oddW l a).1)) (lookB [(1000, tp l (oddW l a).2)]) := by
  obtain ⟨q, b, h1, h2, h3⟩ := world_Odd l a hl hx ha
  exact Classical.epsilon_spec (p := fun p : R3 × Nat => ok20 p.1 ∧ p.2 ≤ l.length ∧ RetB Tryz.prog 11 [.ptr 1000 0] (lookB [(1000, tp l a)]) (.d (rD p.1)) (lookB [(1000, tp l p.2)])) ⟨(q, b), h1, h2, h3⟩
noncomputable def oddsW (l : List Int) : Nat → List (R3) → Nat → List (R3) × Nat
  | 0, xs, a => (xs, a)
  | k + 1, xs, a => oddsW l k (xs ++ [(oddW l a).1]) (oddW l a).2
theorem oddsW_ok (l : List Int) (hl : l.length ≤ 400) (hx : I64 l) : ∀ (k : Nat) (xs : List (R3)) (a : Nat), a ≤ l.length → (∀ x ∈ xs, ok20 x) → (oddsW l k xs a).1.length = xs.length + k ∧ (oddsW l k xs a).2 ≤ l.length ∧ ∀ x ∈ (oddsW l k xs a).1, ok20 x
  | 0, xs, a, ha, h => ⟨rfl, ha, h⟩
  | k + 1, xs, a, ha, h => by
    obtain ⟨r1, r2, _⟩ := oddW_spec l a hl hx ha
    unfold oddsW
    have := oddsW_ok l hl hx k (xs ++ [(oddW l a).1]) (oddW l a).2 r2 (by
      intro q hq
      rcases List.mem_append.1 hq with h' | h'
      · exact h q h'
      · rw [List.mem_singleton.1 h']; exact r1)
    simp only [List.length_append, List.length_singleton] at this
    exact ⟨by omega, this.2⟩
theorem world_OddRow (l : List Int) (a : Nat) (n : Nat) (hl : l.length ≤ 400) (hx : I64 l) (ha : a ≤ l.length) (h2 : n < 900) : ∃ (xs : List (R3)) (b : Nat), xs.length = n ∧ (∀ x ∈ xs, ok20 x) ∧ b ≤ l.length ∧ RetB Tryz.prog 23 [.ptr 1000 0, .d (.int .i64 n)] (lookB [(1000, tp l a)]) (.d (rsD xs)) (lookB [(1000, tp l b)]) := by
  have hfin := oddsW_ok l hl hx n [] a ha (by simp)
  refine ⟨(oddsW l n [] a).1, (oddsW l n [] a).2, by rw [hfin.1]; simp, hfin.2.2, hfin.2.1, ?_⟩
  obtain ⟨F, hF⟩ : ∃ F, oddsW l n [] a = F := ⟨_, rfl⟩
  rw [hF]
  refine retB_of_awp tab [1000] Tryz.func23 rfl rfl rfl (Nat.le_of_ble_eq_true rfl) rfl ⟨Nat.le_refl _, trivial⟩ (fun w0 F0 A io0 => ?_)
  repeat' (first
    | (show awpL _ _ _ _ _; first | refine goL ?_ | (refine gdLG ?_ ?_ <;> intro _ <;> try (exfalso; omega)))
    | (show awp _ _ _ _; first | refine stopA 3 tt ?_)
    | (show awp _ _ _ _; first | refine goA ?_ | (refine cdG ?_ ?_ <;> intro _ <;> try (exfalso; omega)))
    | (show andThen _ _ _ _; refine goN ?_)
    | (show inBlock _ _ _ _; refine goB ?_)
    | (show retPost _ _ _ _ _; refine finG ?_)
    | (show retPostB _ _ _ _ _ _; first | refine finB rfl rfl ?_ ?_ | refine finBT rfl rfl rfl ?_ ?_))
  refine stopOut ?_
  refine goA ?_
  refine awp_adopt 5 700 27 3 rC r0 rfl ?_
  refine awp_loop3 (fun (xs : List (R3)) (b : Nat) (i : Nat) => ([(0, .ptr 1000 0), (1, .d (.int .i64 n)), (5, .own 700 0 xs.length 27 3), (6, .d (.int .i64 ((n : Int) - i)))], [(1000, tp l b), (700, .data 27 3 rC r0 xs)])) (fun xs b i => b ≤ l.length ∧ i ≤ n ∧ xs.length + i = n ∧ (∀ x ∈ xs, ok20 x) ∧ oddsW l i xs b = F) (fun xs b i => i) [] a n ⟨ha, Nat.le_refl _, by simp, by simp, hF⟩ ⟨rfl, rfl, rfl, iv (by omega), rfl⟩ ⟨rfl, rfl, trivial⟩ (fun xs b i hi => ?_)
  obtain ⟨i1, i2, i3, i4, i5⟩ := hi
  by_cases hi0 : i = 0
  · subst hi0
    have e : F = (xs, b) := i5.symm
    subst e
    repeat' (first
      | (show awpL _ _ _ _ _; first | refine goL ?_ | (refine gdLG ?_ ?_ <;> intro _ <;> try (exfalso; omega)))
      | (show awp _ _ _ _; first | refine stopA 6 tt ?_)
      | (show awp _ _ _ _; first | refine goA ?_ | (refine cdG ?_ ?_ <;> intro _ <;> try (exfalso; omega)))
      | (show andThen _ _ _ _; refine goN ?_)
      | (show inBlock _ _ _ _; refine goB ?_)
      | (show retPost _ _ _ _ _; refine finG ?_)
      | (show retPostB _ _ _ _ _ _; first | refine finB rfl rfl ?_ ?_ | refine finBT rfl rfl rfl ?_ ?_))
    refine stopOut ?_
    refine awp_frz 700 rfl ?_
    repeat' (first
      | (show awpL _ _ _ _ _; first | refine goL ?_ | (refine gdLG ?_ ?_ <;> intro _ <;> try (exfalso; omega)))
      | (show awp _ _ _ _; first | refine goA ?_ | (refine cdG ?_ ?_ <;> intro _ <;> try (exfalso; omega)))
      | (show andThen _ _ _ _; refine goN ?_)
      | (show inBlock _ _ _ _; refine goB ?_)
      | (show retPost _ _ _ _ _; refine finG ?_)
      | (show retPostB _ _ _ _ _ _; first | refine finB rfl rfl ?_ ?_ | refine finBT rfl rfl rfl ?_ ?_))
    all_goals first | exact leVT | exact ⟨rfl, trivial⟩
  · obtain ⟨j, rfl⟩ : ∃ j, i = j + 1 := ⟨i - 1, by omega⟩
    obtain ⟨r1', r2', hR⟩ := oddW_spec l b hl hx i1
    unfold oddsW at i5
    generalize oddW l b = x1 at *
    obtain ⟨q1, b1⟩ := x1
    simp only at r1' r2' hR i5
    have hk : ∀ q ∈ xs ++ [q1], ok20 q := by
      intro q hq
      rcases List.mem_append.1 hq with h | h
      · exact i4 q h
      · rw [List.mem_singleton.1 h]; exact r1'
    have keep := And.intro hk i5
    clear hk i5 i4 hfin hF
    repeat' (first
      | (show awpL _ _ _ _ _; first | refine goL ?_ | refine clB 11 [] (hR) tt rfl rfl rfl rfl rfl rfl leVT allB ?_ | (refine gdLG ?_ ?_ <;> intro _ <;> try (exfalso; omega)))
      | (show awp _ _ _ _; first | refine goA ?_ | (refine cdG ?_ ?_ <;> intro _ <;> try (exfalso; omega)))
      | (show andThen _ _ _ _; refine goN ?_)
      | (show inBlock _ _ _ _; refine goB ?_)
      | (show retPost _ _ _ _ _; refine finG ?_)
      | (show retPostB _ _ _ _ _ _; first | refine finB rfl rfl ?_ ?_ | refine finBT rfl rfl rfl ?_ ?_))
    exact ⟨xs ++ [q1], b1, j, ⟨r2', by omega, by simp; omega, keep.1, keep.2⟩, by omega, ⟨rfl, rfl, ownEq (by simp), iv (by omega), rfl⟩, rfl, rfl, trivial⟩
noncomputable def rat2W (l : List Int) (a : Nat) : Rat × Nat := Classical.epsilon fun p : Rat × Nat => okQ 10 p.1 ∧ p.2 ≤ l.length ∧ RetB Tryz.prog 26 [.ptr 1000 0] (lookB [(1000, tp l a)]) (.d (qD p.1)) (lookB [(1000, tp l p.2)])
noncomputable def rat2sW (l : List Int) : Nat → List (Rat) → Nat → List (Rat) × Nat
  | 0, xs, a => (xs, a)
  | k + 1, xs, a => rat2sW l k (xs ++ [(rat2W l a).1]) (rat2W l a).2
end Go.Proofs.YtoppaphffnojdaaGreat
