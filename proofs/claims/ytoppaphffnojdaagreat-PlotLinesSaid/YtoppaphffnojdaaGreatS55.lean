/-
  A statement of the seat: what its contract is, and the claim. Conditions: as each says.
-/
import Derived.Test.YtoppaphffnojdaaGreatW30
import Derived.Test.YtoppaphffnojdaaGreatS42
import Derived.Test.YtoppaphffnojdaaGreatVT
import Derived.Test.YtoppaphffnojdaaGreatA10
set_option linter.unusedVariables false
set_option linter.unusedSimpArgs false
set_option maxHeartbeats 16000000
namespace Go.Proofs.YtoppaphffnojdaaGreat
open Go.Vw
attribute [local irreducible] awp awpL awpR

theorem lines_true (l : List Int) (raw : List R3) (lo hi : R3) (bins width : Int) (hl : l.length ≤ 9223372036854775807) (hx : I64 l) (hrl : raw.length ≤ 9223372036854775807) (hr : ∀ r ∈ raw, RawR r) (hlo : RawR lo) (hhi : RawR hi) (c1 : -9223372036854775808 ≤ bins) (c2 : bins < 9223372036854775808) (c3 : -9223372036854775808 ≤ width) (c4 : width < 9223372036854775808) : Ret Tryz.prog 7 [i64s l, rsD raw, rD lo, rD hi, .int .i64 bins, .int .i64 width] (· = .bool true) := by
  have aw := law40_awake
  have l1 := made_LightList raw 200 hr hrl (by decide)
  have l2 := made_LightW lo hlo
  have l3 := made_LightW hi hhi
  cases hb1 : (decide (raw.length ≤ 200) && raw.all lightR)
  · rw [hb1] at l1
    refine ret_of_awp tab Tryz.func7 rfl rfl (Nat.le_of_ble_eq_true rfl) (fun w0 F0 => ?_)
    repeat' (first
      | (show awpL _ _ _ _ _; first | refine goL ?_ | refine cl 21 tt rfl rfl rfl (hr := l1) (k := ?_) | refine cl 9 tt rfl rfl rfl (hr := aw) (k := ?_) | (refine gdLG ?_ ?_ <;> intro _ <;> try (exfalso; omega)))
      | (show awp _ _ _ _; first | refine goA ?_ | (refine cdG ?_ ?_ <;> intro _ <;> try (exfalso; omega)))
      | (show andThen _ _ _ _; refine goN ?_)
      | (show inBlock _ _ _ _; refine goB ?_)
      | (show retPost _ _ _ _ _; refine finG ?_)
      | (show retPostB _ _ _ _ _ _; first | refine finB rfl rfl ?_ ?_ | refine finBT rfl rfl rfl ?_ ?_))
    all_goals rfl
  cases hb2 : lightR lo
  · rw [hb1] at l1
    rw [hb2] at l2
    refine ret_of_awp tab Tryz.func7 rfl rfl (Nat.le_of_ble_eq_true rfl) (fun w0 F0 => ?_)
    repeat' (first
      | (show awpL _ _ _ _ _; first | refine goL ?_ | refine cl 21 tt rfl rfl rfl (hr := l1) (k := ?_) | refine cl 8 tt rfl rfl rfl (hr := l2) (k := ?_) | refine cl 9 tt rfl rfl rfl (hr := aw) (k := ?_) | (refine gdLG ?_ ?_ <;> intro _ <;> try (exfalso; omega)))
      | (show awp _ _ _ _; first | refine goA ?_ | (refine cdG ?_ ?_ <;> intro _ <;> try (exfalso; omega)))
      | (show andThen _ _ _ _; refine goN ?_)
      | (show inBlock _ _ _ _; refine goB ?_)
      | (show retPost _ _ _ _ _; refine finG ?_)
      | (show retPostB _ _ _ _ _ _; first | refine finB rfl rfl ?_ ?_ | refine finBT rfl rfl rfl ?_ ?_))
    all_goals rfl
  cases hb3 : lightR hi
  · rw [hb1] at l1
    rw [hb2] at l2
    rw [hb3] at l3
    refine ret_of_awp tab Tryz.func7 rfl rfl (Nat.le_of_ble_eq_true rfl) (fun w0 F0 => ?_)
    repeat' (first
      | (show awpL _ _ _ _ _; first | refine goL ?_ | refine cl 21 tt rfl rfl rfl (hr := l1) (k := ?_) | refine cl 8 tt rfl rfl rfl (hr := l2) (k := ?_) | refine cl 8 tt rfl rfl rfl (hr := l3) (k := ?_) | refine cl 9 tt rfl rfl rfl (hr := aw) (k := ?_) | (refine gdLG ?_ ?_ <;> intro _ <;> try (exfalso; omega)))
      | (show awp _ _ _ _; first | refine goA ?_ | (refine cdG ?_ ?_ <;> intro _ <;> try (exfalso; omega)))
      | (show andThen _ _ _ _; refine goN ?_)
      | (show inBlock _ _ _ _; refine goB ?_)
      | (show retPost _ _ _ _ _; refine finG ?_)
      | (show retPostB _ _ _ _ _ _; first | refine finB rfl rfl ?_ ?_ | refine finBT rfl rfl rfl ?_ ?_))
    all_goals rfl
  have olo := hlo.light hb2
  have ohi := hhi.light hb3
  have okr : ∀ r ∈ raw, RatOk r 9 := fun r h => (hr r h).light (by
    rw [Bool.and_eq_true] at hb1
    exact List.all_eq_true.1 hb1.2 r h)
  rw [hb1] at l1
  rw [hb2] at l2
  rw [hb3] at l3
  clear hb1 hb2 hb3 hr hlo hhi
  by_cases h70 : 70 < raw.length
  · refine ret_of_awp tab Tryz.func7 rfl rfl (Nat.le_of_ble_eq_true rfl) (fun w0 F0 => ?_)
    repeat' (first
      | (show awpL _ _ _ _ _; first | refine goL ?_ | refine cl 21 tt rfl rfl rfl (hr := l1) (k := ?_) | refine cl 8 tt rfl rfl rfl (hr := l2) (k := ?_) | refine cl 8 tt rfl rfl rfl (hr := l3) (k := ?_) | refine cl 9 tt rfl rfl rfl (hr := aw) (k := ?_) | (refine gdLG ?_ ?_ <;> intro _ <;> try (exfalso; omega)))
      | (show awp _ _ _ _; first | refine goA ?_ | (refine cdG ?_ ?_ <;> intro _ <;> try (exfalso; omega)))
      | (show andThen _ _ _ _; refine goN ?_)
      | (show inBlock _ _ _ _; refine goB ?_)
      | (show retPost _ _ _ _ _; refine finG ?_)
      | (show retPostB _ _ _ _ _ _; first | refine finB rfl rfl ?_ ?_ | refine finBT rfl rfl rfl ?_ ?_))
    all_goals rfl
  obtain ⟨m, m1, m2, hN0⟩ := world_New l hl hx
  have hN : RetB Tryz.prog 10 [.d (i64s l)] (lookB []) (.ptr 1000 0) (lookB [(1000, tp m 0)]) := hN0.ren [(10, 1000)]
  clear hN0
  obtain ⟨vs, a1, v1, v2, v3, q1, hV⟩ := world_Values m 0 12 m1 m2 (by omega) (by decide) (by decide)
  obtain ⟨r, a2, r1, r2, q2, hX⟩ := world_Next m a1 12 m1 m2 q1 (by decide) (by decide)
  have gl := law40_lines raw lo hi bins width (by omega) (fun _ r h => (okr r h).up (by decide)) (olo.up (by decide)) (ohi.up (by decide)) c3 c4 c1 c2
  refine ret_of_awp tab Tryz.func7 rfl rfl (Nat.le_of_ble_eq_true rfl) (fun w0 F0 => ?_)
  repeat' (first
    | (show awpL _ _ _ _ _; first | refine goL ?_ | refine clB 10 [1000] (hN) tt rfl rfl rfl rfl rfl rfl leVT allB ?_ | refine clB 16 [] (hV) tt rfl rfl rfl rfl rfl rfl leVT allB ?_ | refine cl 21 tt rfl rfl rfl (hr := l1) (k := ?_) | refine cl 8 tt rfl rfl rfl (hr := l2) (k := ?_) | refine cl 8 tt rfl rfl rfl (hr := l3) (k := ?_) | (refine gdLG ?_ ?_ <;> intro _ <;> try (exfalso; omega)))
    | (show awp _ _ _ _; first | refine stopA 7 tt ?_)
    | (show awp _ _ _ _; first | refine goA ?_ | (refine cdG ?_ ?_ <;> intro _ <;> try (exfalso; omega)))
    | (show andThen _ _ _ _; refine goN ?_)
    | (show inBlock _ _ _ _; refine goB ?_)
    | (show retPost _ _ _ _ _; refine finG ?_)
    | (show retPostB _ _ _ _ _ _; first | refine finB rfl rfl ?_ ?_ | refine finBT rfl rfl rfl ?_ ?_))
  refine stopOut ?_
  refine awp_meetC (fun (x : List R3 × Nat) => ([(1, .d (rsD raw)), (4, .d (.int .i64 bins)), (5, .d (.int .i64 width)), (8, .ptr 8 0), (9, .ptr 9 0), (13, .ptr 1000 0), (14, .d (rsD x.1))], [(8, .box 27 ((rC lo).map V.d)), (9, .box 27 ((rC hi).map V.d)), (1000, tp m x.2)])) (fun x => x.1.length ≤ 66 ∧ (∀ r ∈ x.1, RatOk r 20) ∧ x.2 ≤ m.length) (fun x hI => ?_) ?_
  rotate_left
  · clear gl l1 l2 l3 aw hN hV
    by_cases e9 : r = 9
    · subst e9
      repeat' (first
        | (show awpL _ _ _ _ _; first | refine goL ?_ | refine clB 18 [] (hX) tt rfl rfl rfl rfl rfl rfl leVT allB ?_ | (refine gdLG ?_ ?_ <;> intro _ <;> try (exfalso; omega)))
        | (show awp _ _ _ _; first | refine goA ?_ | (refine cdG ?_ ?_ <;> intro _ <;> try (exfalso; omega)))
        | (show andThen _ _ _ _; refine goN ?_)
        | (show inBlock _ _ _ _; refine goB ?_)
        | (show retPost _ _ _ _ _; refine finG ?_)
        | (show retPostB _ _ _ _ _ _; first | refine finB rfl rfl ?_ ?_ | refine finBT rfl rfl rfl ?_ ?_))
      exact ⟨_, Conv.cast 14 (rsD []) rfl LeD.nils, ([], a2), ⟨by simp, by simp, q2⟩, ⟨rfl, rfl, rfl, rfl, rfl, rfl, rfl, rfl⟩, rfl, rfl, rfl, trivial⟩
    by_cases e10 : r = 10
    · subst e10
      obtain ⟨r', a3, r1', r2', q3, hX2⟩ := world_Next m a2 2 m1 m2 q2 (by decide) (by decide)
      repeat' (first
        | (show awpL _ _ _ _ _; first | refine goL ?_ | refine stepMake (mm := true) (en := rC) (z := r0) tt rfl rfl rfl rfl rfl rfl rfl rfl rfl rfl rfl rfl leL sc sc ?_ | refine stepMake (mm := false) (en := rC) (z := r0) tt rfl rfl rfl rfl rfl rfl rfl rfl rfl rfl rfl rfl leL sc sc ?_ | refine clB 18 [] (hX) tt rfl rfl rfl rfl rfl rfl leVT allB ?_ | refine clB 18 [] (hX2) tt rfl rfl rfl rfl rfl rfl leVT allB ?_ | (refine gdLG ?_ ?_ <;> intro _ <;> try (exfalso; omega)))
        | (show awp _ _ _ _; first | refine goA ?_ | (refine cdG ?_ ?_ <;> intro _ <;> try (exfalso; omega)))
        | (show andThen _ _ _ _; refine goN ?_)
        | (show inBlock _ _ _ _; refine goB ?_)
        | (show retPost _ _ _ _ _; refine finG ?_)
        | (show retPostB _ _ _ _ _ _; first | refine finB rfl rfl ?_ ?_ | refine finBT rfl rfl rfl ?_ ?_))
      have hcut : cut 0 (64 + r').toNat (List.replicate (64 + r').toNat r0) = List.replicate (64 + r').toNat r0 := by
        have := cut_all (List.replicate (64 + r').toNat r0)
        rwa [List.length_replicate] at this
      exact ⟨_, Conv.frz 50 rfl, (cut 0 (64 + r').toNat (List.replicate (64 + r').toNat r0), a3), ⟨by simp only [hcut, List.length_replicate]; omega, by
        simp only [hcut]
        intro x hx'
        rw [(List.mem_replicate.1 hx').2]
        exact ok_r0 (by decide), q3⟩, ⟨rfl, rfl, rfl, rfl, rfl, rfl, rfl, rfl⟩, rfl, rfl, rfl, trivial⟩
    by_cases e11 : r = 11
    · subst e11
      obtain ⟨xs, a3, x1, x2, q3, hO⟩ := world_OddRow m a2 4 m1 m2 q2 (by decide)
      repeat' (first
        | (show awpL _ _ _ _ _; first | refine goL ?_ | refine clB 18 [] (hX) tt rfl rfl rfl rfl rfl rfl leVT allB ?_ | refine clB 23 [] (hO) tt rfl rfl rfl rfl rfl rfl leVT allB ?_ | (refine gdLG ?_ ?_ <;> intro _ <;> try (exfalso; omega)))
        | (show awp _ _ _ _; first | refine goA ?_ | (refine cdG ?_ ?_ <;> intro _ <;> try (exfalso; omega)))
        | (show andThen _ _ _ _; refine goN ?_)
        | (show inBlock _ _ _ _; refine goB ?_)
        | (show retPost _ _ _ _ _; refine finG ?_)
        | (show retPostB _ _ _ _ _ _; first | refine finB rfl rfl ?_ ?_ | refine finBT rfl rfl rfl ?_ ?_))
      exact ⟨_, Conv.refl, (xs, a3), ⟨by simp only; omega, x2, q3⟩, ⟨rfl, rfl, rfl, rfl, rfl, rfl, rfl, rfl⟩, rfl, rfl, rfl, trivial⟩
    repeat' (first
      | (show awpL _ _ _ _ _; first | refine goL ?_ | refine clB 18 [] (hX) tt rfl rfl rfl rfl rfl rfl leVT allB ?_ | (refine gdLG ?_ ?_ <;> intro _ <;> try (exfalso; omega)))
      | (show awp _ _ _ _; first | refine goA ?_ | (refine cdG ?_ ?_ <;> intro _ <;> try (exfalso; omega)))
      | (show andThen _ _ _ _; refine goN ?_)
      | (show inBlock _ _ _ _; refine goB ?_)
      | (show retPost _ _ _ _ _; refine finG ?_)
      | (show retPostB _ _ _ _ _ _; first | refine finB rfl rfl ?_ ?_ | refine finBT rfl rfl rfl ?_ ?_))
    exact ⟨_, Conv.cast 14 (rsD (vs.map rq)) rfl (leRsQs vs), (vs.map rq, a2), ⟨by simp only [List.length_map]; omega, fun r hr => by
      obtain ⟨q, hq, rfl⟩ := List.mem_map.1 hr
      exact (ok_rq (v3 q hq)).up (by decide), q2⟩, ⟨rfl, rfl, rfl, rfl, rfl, rfl, rfl, rfl⟩, rfl, rfl, rfl, trivial⟩
  · obtain ⟨xs, b0⟩ := x
    obtain ⟨i1, i2, i3⟩ := hI
    simp only at i1 i2 i3
    obtain ⟨qa, b1, ka, k1, hA⟩ := world_Rat m b0 m1 m2 i3
    obtain ⟨qb, b2, kb, k2, hB⟩ := world_Rat m b1 m1 m2 k1
    have cm := ref03_CompareQ qa qb (ka.mono (by decide)) (kb.mono (by decide))
    have cr := cmpQ_range qa qb
    generalize cmpQ qa qb = z at *
    repeat' (first
      | (show awpL _ _ _ _ _; first | refine goL ?_ | refine clB 26 [] (hA) tt rfl rfl rfl rfl rfl rfl leVT allB ?_ | refine clB 26 [] (hB) tt rfl rfl rfl rfl rfl rfl leVT allB ?_ | (refine gdLG ?_ ?_ <;> intro _ <;> try (exfalso; omega)))
      | (show awp _ _ _ _; first | refine stopA 15 tt ?_)
      | (show awp _ _ _ _; first | refine goA ?_ | (refine cdG ?_ ?_ <;> intro _ <;> try (exfalso; omega)))
      | (show andThen _ _ _ _; refine goN ?_)
      | (show inBlock _ _ _ _; refine goB ?_)
      | (show retPost _ _ _ _ _; refine finG ?_)
      | (show retPostB _ _ _ _ _ _; first | refine finB rfl rfl ?_ ?_ | refine finBT rfl rfl rfl ?_ ?_))
    refine stopOut ?_
    refine awp_meet1 (fun (y : Rat × Rat × Nat) => ([(1, .d (rsD raw)), (4, .d (.int .i64 bins)), (5, .d (.int .i64 width)), (8, .ptr 8 0), (9, .ptr 9 0), (13, .ptr 1000 0), (14, .d (rsD xs)), (15, .ptr 15 0), (16, .ptr 16 0)], [(8, .box 27 ((rC lo).map V.d)), (9, .box 27 ((rC hi).map V.d)), (15, .box 27 ((rC (rq y.1)).map V.d)), (16, .box 27 ((rC (rq y.2.1)).map V.d)), (1000, tp m y.2.2)])) (fun y => okQ 10 y.1 ∧ okQ 10 y.2.1 ∧ y.2.2 ≤ m.length) (fun y hI => ?_) ?_
    rotate_left
    · clear gl l1 l2 l3 aw hN hV hX hA hB
      by_cases g : 0 < z
      · obtain ⟨t, b3, k3, hT⟩ := world_Bool m b2 6 m1 m2 k2 (by decide) (by decide)
        cases t
        · repeat' (first
            | (show awpL _ _ _ _ _; first | refine goL ?_ | refine clB 12 [] (hT) tt rfl rfl rfl rfl rfl rfl leVT allB ?_ | refine cl 20 tt rfl rfl rfl (hr := cm) (k := ?_) | (refine gdLG ?_ ?_ <;> intro _ <;> try (exfalso; omega)))
            | (show awp _ _ _ _; first | refine goA ?_ | (refine cdG ?_ ?_ <;> intro _ <;> try (exfalso; omega)))
            | (show andThen _ _ _ _; refine goN ?_)
            | (show inBlock _ _ _ _; refine goB ?_)
            | (show retPost _ _ _ _ _; refine finG ?_)
            | (show retPostB _ _ _ _ _ _; first | refine finB rfl rfl ?_ ?_ | refine finBT rfl rfl rfl ?_ ?_))
          exact ⟨(qb, qa, b3), ⟨kb, ka, k3⟩, ⟨rfl, rfl, rfl, rfl, rfl, rfl, rfl, rfl, rfl, rfl⟩, rfl, rfl, rfl, rfl, rfl, trivial⟩
        · repeat' (first
            | (show awpL _ _ _ _ _; first | refine goL ?_ | refine clB 12 [] (hT) tt rfl rfl rfl rfl rfl rfl leVT allB ?_ | refine cl 20 tt rfl rfl rfl (hr := cm) (k := ?_) | (refine gdLG ?_ ?_ <;> intro _ <;> try (exfalso; omega)))
            | (show awp _ _ _ _; first | refine goA ?_ | (refine cdG ?_ ?_ <;> intro _ <;> try (exfalso; omega)))
            | (show andThen _ _ _ _; refine goN ?_)
            | (show inBlock _ _ _ _; refine goB ?_)
            | (show retPost _ _ _ _ _; refine finG ?_)
            | (show retPostB _ _ _ _ _ _; first | refine finB rfl rfl ?_ ?_ | refine finBT rfl rfl rfl ?_ ?_))
          exact ⟨(qa, qb, b3), ⟨ka, kb, k3⟩, ⟨rfl, rfl, rfl, rfl, rfl, rfl, rfl, rfl, rfl, rfl⟩, rfl, rfl, rfl, rfl, rfl, trivial⟩
      · repeat' (first
          | (show awpL _ _ _ _ _; first | refine goL ?_ | refine cl 20 tt rfl rfl rfl (hr := cm) (k := ?_) | (refine gdLG ?_ ?_ <;> intro _ <;> try (exfalso; omega)))
          | (show awp _ _ _ _; first | refine goA ?_ | (refine cdG ?_ ?_ <;> intro _ <;> try (exfalso; omega)))
          | (show andThen _ _ _ _; refine goN ?_)
          | (show inBlock _ _ _ _; refine goB ?_)
          | (show retPost _ _ _ _ _; refine finG ?_)
          | (show retPostB _ _ _ _ _ _; first | refine finB rfl rfl ?_ ?_ | refine finBT rfl rfl rfl ?_ ?_))
        exact ⟨(qa, qb, b2), ⟨ka, kb, k2⟩, ⟨rfl, rfl, rfl, rfl, rfl, rfl, rfl, rfl, rfl, rfl⟩, rfl, rfl, rfl, rfl, rfl, trivial⟩
    · obtain ⟨ya, yb, b4⟩ := y
      obtain ⟨j1, j2, j3⟩ := hI
      simp only at j1 j2 j3
      obtain ⟨n, b5, hn, k5, hP1⟩ := world_Pick m b4 [1, 3, 7, 50, 0, 51] m1 m2 j3 (by decide) (by decide)
      obtain ⟨w, b6, hw, k6, hP2⟩ := world_Pick m b5 [1, 4, 10, 40, 100, 0, 101, 20] m1 m2 k5 (by decide) (by decide)
      have hnb : 0 ≤ n ∧ n ≤ 51 := by
        simp only [List.mem_cons, List.not_mem_nil, or_false] at hn
        omega
      have hwb : 0 ≤ w ∧ w ≤ 101 := by
        simp only [List.mem_cons, List.not_mem_nil, or_false] at hw
        omega
      have g1 := law40_lines xs (rq ya) (rq yb) n w (by omega) (fun _ r h => (i2 r h).up (by decide)) ((ok_rq j1).up (by decide)) ((ok_rq j2).up (by decide)) (by omega) (by omega) (by omega) (by omega)
      have g2 := law40_lines raw (rq ya) (rq yb) n w (by omega) (fun _ r h => (okr r h).up (by decide)) ((ok_rq j1).up (by decide)) ((ok_rq j2).up (by decide)) (by omega) (by omega) (by omega) (by omega)
      clear hn hw
      repeat' (first
        | (show awpL _ _ _ _ _; first | refine goL ?_ | refine clB 13 [] (hP1) tt rfl rfl rfl rfl rfl rfl leVT allB ?_ | refine clB 13 [] (hP2) tt rfl rfl rfl rfl rfl rfl leVT allB ?_ | refine cl 30 tt rfl rfl rfl (hr := g1) (k := ?_) | refine cl 30 tt rfl rfl rfl (hr := gl) (k := ?_) | refine cl 30 tt rfl rfl rfl (hr := g2) (k := ?_) | refine cl 9 tt rfl rfl rfl (hr := aw) (k := ?_) | (refine gdLG ?_ ?_ <;> intro _ <;> try (exfalso; omega)))
        | (show awp _ _ _ _; first | refine goA ?_ | (refine cdG ?_ ?_ <;> intro _ <;> try (exfalso; omega)))
        | (show andThen _ _ _ _; refine goN ?_)
        | (show inBlock _ _ _ _; refine goB ?_)
        | (show retPost _ _ _ _ _; refine finG ?_)
        | (show retPostB _ _ _ _ _ _; first | refine finB rfl rfl ?_ ?_ | refine finBT rfl rfl rfl ?_ ?_))
      all_goals rfl
end Go.Proofs.YtoppaphffnojdaaGreat
