/-
  A statement of the seat: what its contract is, and the claim. Conditions: as each says.
-/
import Derived.Test.YtoppaphffnojdaaGreatA10
set_option linter.unusedVariables false
set_option linter.unusedSimpArgs false
set_option maxHeartbeats 16000000
namespace Go.Proofs.YtoppaphffnojdaaGreat
open Go.Vw
attribute [local irreducible] awp awpL awpR

theorem ifT (b : Bool) (z : Int) : (if b = true then D.tup [.int .i64 z, .bool true] else D.tup [.int .i64 0, .bool false]) = D.tup [.int .i64 (if b = true then z else 0), .bool b] := by cases b <;> rfl
theorem places_true (l : List Int) (v lo hi : R3) (c : Int) (hl : l.length ≤ 9223372036854775807) (hx : I64 l) (hv : RawR v) (hlo : RawR lo) (hhi : RawR hi) (c1 : -9223372036854775808 ≤ c) (c2 : c < 9223372036854775808) : Ret Tryz.prog 3 [i64s l, rD v, rD lo, rD hi, .int .i64 c] (· = .bool true) := by
  have aw := law40_awake
  have l1 := made_LightW v hv
  have l2 := made_LightW lo hlo
  have l3 := made_LightW hi hhi
  by_cases hl3 : lightR v = true ∧ lightR lo = true ∧ lightR hi = true
  · obtain ⟨t1, t2, t3⟩ := hl3
    have ov := hv.light t1
    have olo := hlo.light t2
    have ohi := hhi.light t3
    rw [t1] at l1
    rw [t2] at l2
    rw [t3] at l3
    have p2 := plot_Place v lo hi c (ov.up (by decide)) (olo.up (by decide)) (ohi.up (by decide)) c1 c2
    have r2 := ref40_Place v lo hi c (ov.up (by decide)) (olo.up (by decide)) (ohi.up (by decide)) c1 c2
    rw [ifT] at p2 r2
    generalize (if okP (rv v) (rv lo) (rv hi) c = true then cellZ (rv v) (rv lo) (rv hi) c else 0) = z2 at *
    generalize okP (rv v) (rv lo) (rv hi) c = b2 at *
    clear ov olo ohi t1 t2 t3 hv hlo hhi
    obtain ⟨m, m1, m2, hN0⟩ := world_New l hl hx
    have hN : RetB Tryz.prog 10 [.d (i64s l)] (lookB []) (.ptr 1000 0) (lookB [(1000, tp m 0)]) := hN0.ren [(10, 1000)]
    clear hN0
    obtain ⟨x1, a1, k1, q1, h1⟩ := world_Odd m 0 m1 m2 (by omega)
    obtain ⟨x2, a2, k2, q2, h2⟩ := world_Odd m a1 m1 m2 q1
    obtain ⟨x3, a3, k3, q3, h3⟩ := world_Odd m a2 m1 m2 q2
    obtain ⟨t, a4, q4, hB⟩ := world_Bool m a3 3 m1 m2 q3 (by decide) (by decide)
    obtain ⟨k, a5, hk, q5, hP⟩ := world_Pick m a4 [1, 2, 5, 100, 0, -1] m1 m2 q4 (by decide) (by decide)
    have hkb : -1 ≤ k ∧ k ≤ 100 := by
      simp only [List.mem_cons, List.not_mem_nil, or_false] at hk
      omega
    cases t
    · have p1 := plot_Place x1 x2 x3 k (k1.up (by decide)) (k2.up (by decide)) (k3.up (by decide)) (by omega) (by omega)
      have r1 := ref40_Place x1 x2 x3 k (k1.up (by decide)) (k2.up (by decide)) (k3.up (by decide)) (by omega) (by omega)
      rw [ifT] at p1 r1
      generalize (if okP (rv x1) (rv x2) (rv x3) k = true then cellZ (rv x1) (rv x2) (rv x3) k else 0) = z1 at *
      generalize okP (rv x1) (rv x2) (rv x3) k = b1 at *
      refine ret_of_awp tab Tryz.func3 rfl rfl (Nat.le_of_ble_eq_true rfl) (fun w0 F0 => ?_)
      repeat' (first
        | (show awpL _ _ _ _ _; first | refine goL ?_ | refine clB 10 [1000] (hN) tt rfl rfl rfl rfl rfl rfl leVT allB ?_ | refine clB 11 [] (h1) tt rfl rfl rfl rfl rfl rfl leVT allB ?_ | refine clB 11 [] (h2) tt rfl rfl rfl rfl rfl rfl leVT allB ?_ | refine clB 11 [] (h3) tt rfl rfl rfl rfl rfl rfl leVT allB ?_ | refine clB 12 [] (hB) tt rfl rfl rfl rfl rfl rfl leVT allB ?_ | refine clB 13 [] (hP) tt rfl rfl rfl rfl rfl rfl leVT allB ?_ | refine cl 8 tt rfl rfl rfl (hr := l1) (k := ?_) | refine cl 8 tt rfl rfl rfl (hr := l2) (k := ?_) | refine cl 8 tt rfl rfl rfl (hr := l3) (k := ?_) | refine cl 14 tt rfl rfl rfl (hr := p1) (k := ?_) | refine cl 15 tt rfl rfl rfl (hr := r1) (k := ?_) | refine cl 14 tt rfl rfl rfl (hr := p2) (k := ?_) | refine cl 15 tt rfl rfl rfl (hr := r2) (k := ?_) | refine cl 9 tt rfl rfl rfl (hr := aw) (k := ?_) | (refine gdLD rfl rfl (fun _ => ?_) (fun _ => ?_) <;> try (exfalso; omega)) | (refine gdLN rfl rfl (fun _ => ?_) (fun _ => ?_) <;> try (exfalso; omega)) | refine gdL rfl rfl (fun _ => ?_) (fun _ => ?_))
        | (show awp _ _ _ _; first | refine goA ?_ | (refine awp_condD rfl (fun _ => ?_) (fun _ => ?_) <;> try (exfalso; omega)) | (refine awp_condN rfl (fun _ => ?_) (fun _ => ?_) <;> try (exfalso; omega)) | refine awp_cond rfl (fun _ => ?_) (fun _ => ?_))
        | (show andThen _ _ _ _; first | refine goN ?_)
        | (show inBlock _ _ _ _; first | refine goB ?_)
        | (show awpR _ _ _ _ _ _; first | refine goR ?_ | refine clR 8 tt rfl rfl rfl (hr := l1) (k := ?_) | refine clR 8 tt rfl rfl rfl (hr := l2) (k := ?_) | refine clR 8 tt rfl rfl rfl (hr := l3) (k := ?_) | refine clR 14 tt rfl rfl rfl (hr := p1) (k := ?_) | refine clR 15 tt rfl rfl rfl (hr := r1) (k := ?_) | refine clR 14 tt rfl rfl rfl (hr := p2) (k := ?_) | refine clR 15 tt rfl rfl rfl (hr := r2) (k := ?_) | refine clR 9 tt rfl rfl rfl (hr := aw) (k := ?_) | (refine gdRD rfl rfl (fun _ => ?_) (fun _ => ?_) <;> try (exfalso; omega)) | (refine gdRN rfl rfl (fun _ => ?_) (fun _ => ?_) <;> try (exfalso; omega)) | refine gdR rfl rfl (fun _ => ?_) (fun _ => ?_))
        | (show retPost _ _ _ _ _; first | refine finF true rfl rfl sc ?_ | refine finF false rfl rfl sc ?_ | refine finC false rfl rfl sc sc ?_ | refine finN rfl rfl sc ?_ | refine finL true rfl rfl sc rfl (LeR.cons rfl leL LeR.nil) ?_ | refine finE true rfl rfl sc ?_ | refine finE false rfl rfl sc ?_)
        | (show retPostB _ _ _ _ _ _; first | refine finB rfl rfl ?_ ?_ | refine finBT rfl rfl rfl ?_ ?_))
      all_goals first | rfl | (rename_i hc; exact absurd rfl hc)
    · have p1 := plot_Place x2 x2 x3 k (k2.up (by decide)) (k2.up (by decide)) (k3.up (by decide)) (by omega) (by omega)
      have r1 := ref40_Place x2 x2 x3 k (k2.up (by decide)) (k2.up (by decide)) (k3.up (by decide)) (by omega) (by omega)
      rw [ifT] at p1 r1
      generalize (if okP (rv x2) (rv x2) (rv x3) k = true then cellZ (rv x2) (rv x2) (rv x3) k else 0) = z1 at *
      generalize okP (rv x2) (rv x2) (rv x3) k = b1 at *
      refine ret_of_awp tab Tryz.func3 rfl rfl (Nat.le_of_ble_eq_true rfl) (fun w0 F0 => ?_)
      repeat' (first
        | (show awpL _ _ _ _ _; first | refine goL ?_ | refine clB 10 [1000] (hN) tt rfl rfl rfl rfl rfl rfl leVT allB ?_ | refine clB 11 [] (h1) tt rfl rfl rfl rfl rfl rfl leVT allB ?_ | refine clB 11 [] (h2) tt rfl rfl rfl rfl rfl rfl leVT allB ?_ | refine clB 11 [] (h3) tt rfl rfl rfl rfl rfl rfl leVT allB ?_ | refine clB 12 [] (hB) tt rfl rfl rfl rfl rfl rfl leVT allB ?_ | refine clB 13 [] (hP) tt rfl rfl rfl rfl rfl rfl leVT allB ?_ | refine cl 8 tt rfl rfl rfl (hr := l1) (k := ?_) | refine cl 8 tt rfl rfl rfl (hr := l2) (k := ?_) | refine cl 8 tt rfl rfl rfl (hr := l3) (k := ?_) | refine cl 14 tt rfl rfl rfl (hr := p1) (k := ?_) | refine cl 15 tt rfl rfl rfl (hr := r1) (k := ?_) | refine cl 14 tt rfl rfl rfl (hr := p2) (k := ?_) | refine cl 15 tt rfl rfl rfl (hr := r2) (k := ?_) | refine cl 9 tt rfl rfl rfl (hr := aw) (k := ?_) | (refine gdLD rfl rfl (fun _ => ?_) (fun _ => ?_) <;> try (exfalso; omega)) | (refine gdLN rfl rfl (fun _ => ?_) (fun _ => ?_) <;> try (exfalso; omega)) | refine gdL rfl rfl (fun _ => ?_) (fun _ => ?_))
        | (show awp _ _ _ _; first | refine goA ?_ | (refine awp_condD rfl (fun _ => ?_) (fun _ => ?_) <;> try (exfalso; omega)) | (refine awp_condN rfl (fun _ => ?_) (fun _ => ?_) <;> try (exfalso; omega)) | refine awp_cond rfl (fun _ => ?_) (fun _ => ?_))
        | (show andThen _ _ _ _; first | refine goN ?_)
        | (show inBlock _ _ _ _; first | refine goB ?_)
        | (show awpR _ _ _ _ _ _; first | refine goR ?_ | refine clR 8 tt rfl rfl rfl (hr := l1) (k := ?_) | refine clR 8 tt rfl rfl rfl (hr := l2) (k := ?_) | refine clR 8 tt rfl rfl rfl (hr := l3) (k := ?_) | refine clR 14 tt rfl rfl rfl (hr := p1) (k := ?_) | refine clR 15 tt rfl rfl rfl (hr := r1) (k := ?_) | refine clR 14 tt rfl rfl rfl (hr := p2) (k := ?_) | refine clR 15 tt rfl rfl rfl (hr := r2) (k := ?_) | refine clR 9 tt rfl rfl rfl (hr := aw) (k := ?_) | (refine gdRD rfl rfl (fun _ => ?_) (fun _ => ?_) <;> try (exfalso; omega)) | (refine gdRN rfl rfl (fun _ => ?_) (fun _ => ?_) <;> try (exfalso; omega)) | refine gdR rfl rfl (fun _ => ?_) (fun _ => ?_))
        | (show retPost _ _ _ _ _; first | refine finF true rfl rfl sc ?_ | refine finF false rfl rfl sc ?_ | refine finC false rfl rfl sc sc ?_ | refine finN rfl rfl sc ?_ | refine finL true rfl rfl sc rfl (LeR.cons rfl leL LeR.nil) ?_ | refine finE true rfl rfl sc ?_ | refine finE false rfl rfl sc ?_)
        | (show retPostB _ _ _ _ _ _; first | refine finB rfl rfl ?_ ?_ | refine finBT rfl rfl rfl ?_ ?_))
      all_goals first | rfl | (rename_i hc; exact absurd rfl hc)
  · generalize lightR v = b1 at *
    generalize lightR lo = b2 at *
    generalize lightR hi = b3 at *
    cases b1 <;> cases b2 <;> cases b3
    rotate_left 7
    · exact absurd ⟨rfl, rfl, rfl⟩ hl3
    all_goals
      refine ret_of_awp tab Tryz.func3 rfl rfl (Nat.le_of_ble_eq_true rfl) (fun w0 F0 => ?_)
      repeat' (first
        | (show awpL _ _ _ _ _; first | refine goL ?_ | refine cl 8 tt rfl rfl rfl (hr := l1) (k := ?_) | refine cl 8 tt rfl rfl rfl (hr := l2) (k := ?_) | refine cl 8 tt rfl rfl rfl (hr := l3) (k := ?_) | refine cl 9 tt rfl rfl rfl (hr := aw) (k := ?_) | (refine gdLD rfl rfl (fun _ => ?_) (fun _ => ?_) <;> try (exfalso; omega)) | (refine gdLN rfl rfl (fun _ => ?_) (fun _ => ?_) <;> try (exfalso; omega)) | refine gdL rfl rfl (fun _ => ?_) (fun _ => ?_))
        | (show awp _ _ _ _; first | refine goA ?_ | (refine awp_condD rfl (fun _ => ?_) (fun _ => ?_) <;> try (exfalso; omega)) | (refine awp_condN rfl (fun _ => ?_) (fun _ => ?_) <;> try (exfalso; omega)) | refine awp_cond rfl (fun _ => ?_) (fun _ => ?_))
        | (show andThen _ _ _ _; first | refine goN ?_)
        | (show inBlock _ _ _ _; first | refine goB ?_)
        | (show awpR _ _ _ _ _ _; first | refine goR ?_ | refine clR 8 tt rfl rfl rfl (hr := l1) (k := ?_) | refine clR 8 tt rfl rfl rfl (hr := l2) (k := ?_) | refine clR 8 tt rfl rfl rfl (hr := l3) (k := ?_) | refine clR 9 tt rfl rfl rfl (hr := aw) (k := ?_) | (refine gdRD rfl rfl (fun _ => ?_) (fun _ => ?_) <;> try (exfalso; omega)) | (refine gdRN rfl rfl (fun _ => ?_) (fun _ => ?_) <;> try (exfalso; omega)) | refine gdR rfl rfl (fun _ => ?_) (fun _ => ?_))
        | (show retPost _ _ _ _ _; first | refine finF true rfl rfl sc ?_ | refine finF false rfl rfl sc ?_ | refine finC false rfl rfl sc sc ?_ | refine finN rfl rfl sc ?_ | refine finL true rfl rfl sc rfl (LeR.cons rfl leL LeR.nil) ?_ | refine finE true rfl rfl sc ?_ | refine finE false rfl rfl sc ?_)
        | (show retPostB _ _ _ _ _ _; first | refine finB rfl rfl ?_ ?_ | refine finBT rfl rfl rfl ?_ ?_))
      rfl
end Go.Proofs.YtoppaphffnojdaaGreat
