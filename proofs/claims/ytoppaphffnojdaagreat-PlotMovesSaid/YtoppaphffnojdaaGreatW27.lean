/-
  A statement of the seat: what its contract is, and the claim. Conditions: as each says.
-/
import Derived.Test.YtoppaphffnojdaaGreatW26
import Derived.Test.YtoppaphffnojdaaGreatA10
set_option linter.unusedVariables false
set_option linter.unusedSimpArgs false
set_option maxHeartbeats 8000000
namespace Go.Proofs.YtoppaphffnojdaaGreat
open Go.Vw
attribute [local irreducible] awp awpL awpR

theorem ifT2 (b : Bool) (z : Int) : (if b = true then D.tup [.int .i64 z, .bool true] else D.tup [.int .i64 0, .bool false]) = D.tup [.int .i64 (if b = true then z else 0), .bool b] := by cases b <;> rfl
theorem plot_draw (b : List UInt8) (i j : Int) (c : UInt8) (hb : b.length ≤ 1000) (h0 : 0 ≤ i) (h1 : i ≤ 1000) (h2 : -1 ≤ j) (h3 : j < b.length) : RetB Tryz.prog 57 [.d (.int .i64 i), .d (.int .i64 j), .d (.int .u8 c.toNat), .ptr 11 0] (lookB [(11, .box 64 [.own 600 0 b.length 5 1]), (600, .data 5 1 eB 0 b)]) (.tup []) (lookB [(11, .box 64 [.own 600 0 b.length 5 1]), (600, .data 5 1 eB 0 (drawL b i j c))]) := by
  have hc := UInt8.toNat_lt c
  refine retB_of_awp tab [11, 600] Tryz.func57 rfl rfl rfl (Nat.le_of_ble_eq_true rfl) rfl ⟨Nat.le_refl _, by show _ ≤ (drawL b i j c).length; rw [drawL_len]; exact Nat.le_refl _, trivial⟩ (fun w0 F0 A io0 => ?_)
  repeat' (first
    | (show awpL _ _ _ _ _; first | refine goL ?_ | (refine gdLG ?_ ?_ <;> intro _ <;> try (exfalso; omega)))
    | (show awp _ _ _ _; first | refine stopA 1 tt ?_)
    | (show awp _ _ _ _; first | refine goA ?_ | (refine cdG ?_ ?_ <;> intro _ <;> try (exfalso; omega)))
    | (show andThen _ _ _ _; refine goN ?_)
    | (show inBlock _ _ _ _; refine goB ?_)
    | (show retPost _ _ _ _ _; refine finG ?_)
    | (show retPostB _ _ _ _ _ _; first | refine finB rfl rfl ?_ ?_ | refine finBT rfl rfl rfl ?_ ?_))
  refine stopOut ?_
  refine goA ?_
  refine awp_loop1 (fun (n : Int) => ([(1, .d (.int .i64 j)), (2, .d (.int .u8 c.toNat)), (3, .ptr 11 0), (7, .d (.int .i64 n))], [(11, .box 64 [.own 600 0 b.length 5 1]), (600, .data 5 1 eB 0 (drawL b i (n - 1) c))])) (fun n => i ≤ n ∧ (n ≤ j + 1 ∨ n = i)) (fun n => (j + 1 - n).toNat) i (by omega) ⟨rfl, rfl, rfl, rfl, rfl⟩ ⟨rfl, blkEq (drawL_none (by omega)).symm, trivial⟩ (fun n hn => ?_)
  obtain ⟨n1, n2⟩ := hn
  have hl := drawL_len b i (n - 1) c
  by_cases h4 : n ≤ j
  · have hs := drawL_step (b := b) (i := i) (j := n - 1) (c := c) h0 (by omega)
    rw [show n - 1 + 1 = n by omega] at hs
    repeat' (first
      | (show awpL _ _ _ _ _; first | refine goL ?_ | (refine gdLG ?_ ?_ <;> intro _ <;> try (exfalso; omega)))
      | (show awp _ _ _ _; first | refine goA ?_ | (refine cdG ?_ ?_ <;> intro _ <;> try (exfalso; omega)))
      | (show andThen _ _ _ _; refine goN ?_)
      | (show inBlock _ _ _ _; refine goB ?_)
      | (show retPost _ _ _ _ _; refine finG ?_)
      | (show retPostB _ _ _ _ _ _; first | refine finB rfl rfl ?_ ?_ | refine finBT rfl rfl rfl ?_ ?_))
    refine ⟨n + 1, by omega, by omega, ⟨rfl, rfl, rfl, rfl, rfl⟩, rfl, blkEq ?_, trivial⟩
    rw [show n + 1 - 1 = n by omega]
    exact hs
  · have e : drawL b i (n - 1) c = drawL b i j c := by
      rcases n2 with h | h
      · rw [show n - 1 = j by omega]
      · rw [drawL_none (by omega), drawL_none (by omega)]
    rw [e] at hl ⊢
    repeat' (first
      | (show awpL _ _ _ _ _; first | refine goL ?_ | (refine gdLG ?_ ?_ <;> intro _ <;> try (exfalso; omega)))
      | (show awp _ _ _ _; first | refine goA ?_ | (refine cdG ?_ ?_ <;> intro _ <;> try (exfalso; omega)))
      | (show andThen _ _ _ _; refine goN ?_)
      | (show inBlock _ _ _ _; refine goB ?_)
      | (show retPost _ _ _ _ _; refine finG ?_)
      | (show retPostB _ _ _ _ _ _; first | refine finB rfl rfl ?_ ?_ | refine finBT rfl rfl rfl ?_ ?_))
    all_goals first | exact leVT | exact ⟨rfl, rfl, trivial⟩
theorem ref40_draw (b : List UInt8) (x y lo hi : R3) (c : UInt8) (hb : b.length ≤ 1000) (hx : RatOk x 100) (hy : RatOk y 100) (hl : RatOk lo 100) (hh : RatOk hi 100) : RetB Tryz.prog 101 [.own 600 0 b.length 5 1, .d (rD x), .d (rD y), .d (rD lo), .d (rD hi), .d (.int .u8 c.toNat)] (lookB [(600, .data 5 1 eB 0 b)]) (.tup []) (lookB [(600, .data 5 1 eB 0 (drawP (rv lo) (rv hi) b (rv x) (rv y) c))]) := by
  have hc := UInt8.toNat_lt c
  have p1 := ref40_Place x lo hi b.length hx hl hh (by omega) (by omega)
  have p2 := ref40_Place y lo hi b.length hy hl hh (by omega) (by omega)
  have i1 := @cell_in (rv x) (rv lo) (rv hi) b.length
  have i2 := @cell_in (rv y) (rv lo) (rv hi) b.length
  unfold drawP
  rw [ifT2] at p1 p2
  generalize cellZ (rv x) (rv lo) (rv hi) b.length = i at *
  generalize cellZ (rv y) (rv lo) (rv hi) b.length = j at *
  generalize okP (rv x) (rv lo) (rv hi) b.length = k1 at *
  generalize okP (rv y) (rv lo) (rv hi) b.length = k2 at *
  have main : ∀ z1 z2 : Int, k1 = false ∨ k2 = false → Ret Tryz.prog 15 [rD x, rD lo, rD hi, .int .i64 b.length] (· = .tup [.int .i64 z1, .bool k1]) → Ret Tryz.prog 15 [rD y, rD lo, rD hi, .int .i64 b.length] (· = .tup [.int .i64 z2, .bool k2]) → RetB Tryz.prog 101 [.own 600 0 b.length 5 1, .d (rD x), .d (rD y), .d (rD lo), .d (rD hi), .d (.int .u8 c.toNat)] (lookB [(600, .data 5 1 eB 0 b)]) (.tup []) (lookB [(600, .data 5 1 eB 0 b)]) := fun z1 z2 hk q1 q2 => by
    clear p1 p2 i1 i2
    cases k1 <;> cases k2
    rotate_left 3
    · rcases hk with h | h <;> cases h
    all_goals
      refine retB_of_awp tab [600] Tryz.func101 rfl rfl rfl (Nat.le_of_ble_eq_true rfl) rfl ⟨Nat.le_refl _, trivial⟩ (fun w0 F0 A io0 => ?_)
      repeat' (first
        | (show awpL _ _ _ _ _; first | refine goL ?_ | refine cl 15 tt rfl rfl rfl (hr := q1) (k := ?_) | refine cl 15 tt rfl rfl rfl (hr := q2) (k := ?_) | (refine gdLG ?_ ?_ <;> intro _ <;> try (exfalso; omega)))
        | (show awp _ _ _ _; first | refine stopA 3 tt ?_)
        | (show awp _ _ _ _; first | refine goA ?_ | (refine cdG ?_ ?_ <;> intro _ <;> try (exfalso; omega)))
        | (show andThen _ _ _ _; refine goN ?_)
        | (show inBlock _ _ _ _; refine goB ?_)
        | (show retPost _ _ _ _ _; refine finG ?_)
        | (show retPostB _ _ _ _ _ _; first | refine finB rfl rfl ?_ ?_ | refine finBT rfl rfl rfl ?_ ?_))
      refine stopOut ?_
      refine goA ?_
      refine awp_loop1 (fun (_ : Unit) => ([(12, .d (.int .i64 z1)), (13, _), (14, .d (.int .i64 z2)), (15, _)], [(600, .data 5 1 eB 0 b)])) (fun _ => True) (fun _ => 0) () trivial ⟨rfl, rfl, rfl, rfl, rfl⟩ ⟨rfl, trivial⟩ (fun _ _ => ?_)
      repeat' (first
        | (show awpL _ _ _ _ _; first | refine goL ?_ | (refine gdLG ?_ ?_ <;> intro _ <;> try (exfalso; omega)))
        | (show awp _ _ _ _; first | refine goA ?_ | (refine cdG ?_ ?_ <;> intro _ <;> try (exfalso; omega)))
        | (show andThen _ _ _ _; refine goN ?_)
        | (show inBlock _ _ _ _; refine goB ?_)
        | (show retPost _ _ _ _ _; refine finG ?_)
        | (show retPostB _ _ _ _ _ _; first | refine finB rfl rfl ?_ ?_ | refine finBT rfl rfl rfl ?_ ?_))
      all_goals first | exact leVT | exact ⟨rfl, trivial⟩
  cases k1
  · exact main _ _ (.inl rfl) p1 p2
  cases k2
  · exact main _ _ (.inr rfl) p1 p2
  clear main
  rw [if_pos rfl] at p1 p2
  have i1' := i1 rfl
  have i2' := i2 rfl
  clear i1 i2
  rw [Bool.and_self, if_pos rfl]
  refine retB_of_awp tab [600] Tryz.func101 rfl rfl rfl (Nat.le_of_ble_eq_true rfl) rfl ⟨by show _ ≤ (drawL b i j c).length; rw [drawL_len]; exact Nat.le_refl _, trivial⟩ (fun w0 F0 A io0 => ?_)
  repeat' (first
    | (show awpL _ _ _ _ _; first | refine goL ?_ | refine cl 15 tt rfl rfl rfl (hr := p1) (k := ?_) | refine cl 15 tt rfl rfl rfl (hr := p2) (k := ?_) | (refine gdLG ?_ ?_ <;> intro _ <;> try (exfalso; omega)))
    | (show awp _ _ _ _; first | refine stopA 3 tt ?_)
    | (show awp _ _ _ _; first | refine goA ?_ | (refine cdG ?_ ?_ <;> intro _ <;> try (exfalso; omega)))
    | (show andThen _ _ _ _; refine goN ?_)
    | (show inBlock _ _ _ _; refine goB ?_)
    | (show retPost _ _ _ _ _; refine finG ?_)
    | (show retPostB _ _ _ _ _ _; first | refine finB rfl rfl ?_ ?_ | refine finBT rfl rfl rfl ?_ ?_))
  refine stopOut ?_
  refine goA ?_
  refine awp_loop1 (fun (n : Int) => ([(0, .own 600 0 b.length 5 1), (5, .d (.int .u8 c.toNat)), (12, .d (.int .i64 n)), (13, .d (.bool true)), (14, .d (.int .i64 j)), (15, .d (.bool true))], [(600, .data 5 1 eB 0 (drawL b i (n - 1) c))])) (fun n => i ≤ n ∧ (n ≤ j + 1 ∨ n = i)) (fun n => (j + 1 - n).toNat) i (by omega) ⟨rfl, rfl, rfl, rfl, rfl, rfl, rfl⟩ ⟨blkEq (drawL_none (by omega)).symm, trivial⟩ (fun n hn => ?_)
  obtain ⟨n1, n2⟩ := hn
  have hl := drawL_len b i (n - 1) c
  by_cases h4 : n ≤ j
  · have hs := drawL_step (b := b) (i := i) (j := n - 1) (c := c) (by omega) (by omega)
    rw [show n - 1 + 1 = n by omega] at hs
    repeat' (first
      | (show awpL _ _ _ _ _; first | refine goL ?_ | (refine gdLG ?_ ?_ <;> intro _ <;> try (exfalso; omega)))
      | (show awp _ _ _ _; first | refine goA ?_ | (refine cdG ?_ ?_ <;> intro _ <;> try (exfalso; omega)))
      | (show andThen _ _ _ _; refine goN ?_)
      | (show inBlock _ _ _ _; refine goB ?_)
      | (show retPost _ _ _ _ _; refine finG ?_)
      | (show retPostB _ _ _ _ _ _; first | refine finB rfl rfl ?_ ?_ | refine finBT rfl rfl rfl ?_ ?_))
    refine ⟨n + 1, by omega, by omega, ⟨rfl, rfl, rfl, rfl, rfl, rfl, rfl⟩, blkEq ?_, trivial⟩
    rw [show n + 1 - 1 = n by omega]
    exact hs
  · have e : drawL b i (n - 1) c = drawL b i j c := by
      rcases n2 with h | h
      · rw [show n - 1 = j by omega]
      · rw [drawL_none (by omega), drawL_none (by omega)]
    rw [e] at hl ⊢
    repeat' (first
      | (show awpL _ _ _ _ _; first | refine goL ?_ | (refine gdLG ?_ ?_ <;> intro _ <;> try (exfalso; omega)))
      | (show awp _ _ _ _; first | refine goA ?_ | (refine cdG ?_ ?_ <;> intro _ <;> try (exfalso; omega)))
      | (show andThen _ _ _ _; refine goN ?_)
      | (show inBlock _ _ _ _; refine goB ?_)
      | (show retPost _ _ _ _ _; refine finG ?_)
      | (show retPostB _ _ _ _ _ _; first | refine finB rfl rfl ?_ ?_ | refine finBT rfl rfl rfl ?_ ?_))
    all_goals first | exact leVT | exact ⟨rfl, trivial⟩
end Go.Proofs.YtoppaphffnojdaaGreat
