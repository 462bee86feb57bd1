/-
  A statement of the seat: what its contract is, and the claim. Conditions: as each says.
-/
import Derived.Test.YtlphlodailailaaGreatY16
import Derived.Test.YtlphlodailailaaGreatVMk
import Derived.Test.YtlphlodailailaaGreatA08
set_option linter.unusedVariables false
set_option linter.unusedSimpArgs false
set_option maxHeartbeats 8000000
namespace Go.Proofs.YtlphlodailailaaGreat
open Go.Vw
attribute [local irreducible] awp awpL awpR

theorem xOk_of (n : Nat) (h : n = 25 ∨ n = 26 ∨ n = 27 ∨ n = 28) : XOk n (derP (xN n)) ∧ evalP (xN n) (rv r0) = 0 := by
  rcases h with rfl | rfl | rfl | rfl
  · exact ⟨⟨rfl, by decide +kernel, by decide +kernel, by decide +kernel, by decide +kernel, by decide +kernel, by decide +kernel, by decide +kernel, by decide +kernel, by decide +kernel, by decide +kernel, by decide +kernel, by decide +kernel, by decide, by decide⟩, by decide +kernel⟩
  · exact ⟨⟨rfl, by decide +kernel, by decide +kernel, by decide +kernel, by decide +kernel, by decide +kernel, by decide +kernel, by decide +kernel, by decide +kernel, by decide +kernel, by decide +kernel, by decide +kernel, by decide +kernel, by decide, by decide⟩, by decide +kernel⟩
  · exact ⟨⟨rfl, by decide +kernel, by decide +kernel, by decide +kernel, by decide +kernel, by decide +kernel, by decide +kernel, by decide +kernel, by decide +kernel, by decide +kernel, by decide +kernel, by decide +kernel, by decide +kernel, by decide, by decide⟩, by decide +kernel⟩
  · exact ⟨⟨rfl, by decide +kernel, by decide +kernel, by decide +kernel, by decide +kernel, by decide +kernel, by decide +kernel, by decide +kernel, by decide +kernel, by decide +kernel, by decide +kernel, by decide +kernel, by decide +kernel, by decide, by decide⟩, by decide +kernel⟩
theorem plimit_true (m v : Int) (h0 : 0 ≤ m) (h1 : m < 256) (v1 : -9223372036854775808 ≤ v) (v2 : v < 9223372036854775808) : Ret Tryz.prog 12 [.int .u8 m, .int .i64 v] (· = .bool true) := by
  have aw := law05_awake
  have f1 := ref03_FromIntW 1 (by decide) (by decide)
  have nv := made_Number v v1 v2
  obtain ⟨n, hn⟩ : ∃ n, (25 + m % 4).toNat = n := ⟨_, rfl⟩
  obtain ⟨xo, xe⟩ := xOk_of n (by omega)
  obtain ⟨P, hP⟩ : ∃ P, List.replicate (25 + m % 4).toNat r0 ++ [rq ((1 : Int) : Rat)] = P := ⟨_, rfl⟩
  have hv : P.map rv = xN n := by
    rw [← hP, hn, List.map_append, List.map_replicate, rv_r0, List.map_cons, rv_rq]; rfl
  have hl : P.length = n + 1 := by rw [← xo.l1, ← hv, List.length_map]
  have o0 : RatOk r0 10 := by
    have h2 := ok_rq (q := 0) (k := 10) (okQ_zero (by decide))
    rwa [show rq 0 = r0 by decide +kernel] at h2
  have kP : ∀ r ∈ P, RatOk r 10 := fun r hr => by
    rw [← hP] at hr
    rcases List.mem_append.1 hr with h | h
    · rw [(List.mem_replicate.1 h).2]; exact o0
    · rw [List.mem_singleton.1 h]; exact ok_rq ((ok_intW (by decide)).mono (by decide))
  have dg := polynomial_Degree P (by omega) (fun r hr => (kP r hr).up (by decide))
  rw [hv, xo.tx, xo.l1, show (((n + 1 : Nat) : Int) - 1) = (n : Int) by omega] at dg
  have nc := newCounter_x P n _ xo hv (fun r hr => (kP r hr).up (by decide))
  obtain ⟨ev, _⟩ := polynomial_EvalR P r0 10 10 (by omega) kP o0 (by decide) (by decide) (by decide)
  rw [hv, xe] at ev
  have is := isolate_big P (rq (numQ v)) (rq (numQ v)) n (by omega) (by omega) dg
  have rf := refine_big P _ n (by omega) (by omega) dg nc ev
  have rf2 : Ret Tryz.prog 51 [rsD P, .agg [.bool false, .nils, .nils, .bool false, .nils, .nils], .int .i64 3] (· = .tup [iD r0 r0, .int .i64 2]) := rf.args (LeT.cons (LeD.refl _) (LeT.cons (LeD.agg leL) (LeT.refl _)))
  rw [← hP] at is rf2
  generalize ((1 : Int) : Rat) = q1 at *
  generalize numQ v = qv at *
  clear xo xe hv kP dg nc ev rf hl hP
  refine ret_of_awp tab Tryz.func12 rfl rfl (Nat.le_of_ble_eq_true rfl) (fun w0 F0 => ?_)
  repeat' (first
    | (show awpL _ _ _ _ _; first | refine goL ?_ | refine stepMake (mm := true) (en := rC) (z := r0) tt rfl rfl rfl rfl rfl rfl rfl rfl rfl rfl rfl rfl leL sc sc ?_ | refine stepMake (mm := false) (en := rC) (z := r0) tt rfl rfl rfl rfl rfl rfl rfl rfl rfl rfl rfl rfl leL sc sc ?_ | refine cl 31 tt rfl rfl rfl (hr := f1) (k := ?_) | refine cl 14 tt rfl rfl rfl (hr := nv) (k := ?_) | refine cl 49 tt rfl rfl rfl (hr := is) (k := ?_) | refine cl 51 tt rfl rfl rfl (hr := rf2) (k := ?_) | refine cl 15 tt rfl rfl rfl (hr := aw) (k := ?_) | (refine gdLG ?_ ?_ <;> intro _ <;> try (exfalso; omega)))
    | (show awp _ _ _ _; first | refine goA ?_ | refine rg 1 7 ?_ | (refine cdG ?_ ?_ <;> intro _ <;> try (exfalso; omega)))
    | (show andThen _ _ _ _; refine goN ?_)
    | (show inBlock _ _ _ _; refine goB ?_)
    | (show awpR _ _ _ _ _ _ _; first | refine goR ?_ | refine stepRMakeF (mm := true) (en := rC) (z := r0) tt rfl rfl tt rfl rfl rfl rfl rfl rfl rfl rfl rfl leL sc sc ?_ | refine stepRMakeF (mm := false) (en := rC) (z := r0) tt rfl rfl tt rfl rfl rfl rfl rfl rfl rfl rfl rfl leL sc sc ?_ | refine clR 31 tt rfl rfl rfl (hr := f1) (k := ?_) | refine clR 14 tt rfl rfl rfl (hr := nv) (k := ?_) | refine clR 49 tt rfl rfl rfl (hr := is) (k := ?_) | refine clR 51 tt rfl rfl rfl (hr := rf2) (k := ?_) | refine clR 15 tt rfl rfl rfl (hr := aw) (k := ?_) | (refine gdRG ?_ ?_ <;> intro _ <;> try (exfalso; omega)))
    | (show retPost _ _ _ _ _; refine finG ?_))
  simp only [List.drop_succ_cons, List.drop_zero]
  have hL : ∀ (hb : (List.replicate (25 + m % 4).toNat r0).length + [rq q1].length ≤ 9223372036854775807 ∧ ((List.replicate (25 + m % 4).toNat r0).length + [rq q1].length) * 56 ≤ 140737488355328), (List.replicate (25 + m % 4).toNat r0).length + [rq q1].length ≤ 9223372036854775807 ∧ ((List.replicate (25 + m % 4).toNat r0).length + [rq q1].length) * 56 ≤ 140737488355328 := fun h => h
  have hb := hL (by rw [List.length_replicate]; simp only [List.length_cons, List.length_nil]; omega)
  refine stepAppF (en := rC) (z := r0) (l2 := [rq q1]) (l := List.replicate (25 + m % 4).toNat r0) tt rfl rfl rfl rfl rfl rfl rfl rfl rfl rfl rfl (LeD.lit rfl (LeR.cons rfl leL LeR.nil)) (LeD.refl _) hb ?_
  repeat' (first
    | (show awpL _ _ _ _ _; first | refine goL ?_ | refine stepMake (mm := true) (en := rC) (z := r0) tt rfl rfl rfl rfl rfl rfl rfl rfl rfl rfl rfl rfl leL sc sc ?_ | refine stepMake (mm := false) (en := rC) (z := r0) tt rfl rfl rfl rfl rfl rfl rfl rfl rfl rfl rfl rfl leL sc sc ?_ | refine cl 31 tt rfl rfl rfl (hr := f1) (k := ?_) | refine cl 14 tt rfl rfl rfl (hr := nv) (k := ?_) | refine cl 49 tt rfl rfl rfl (hr := is) (k := ?_) | refine cl 51 tt rfl rfl rfl (hr := rf2) (k := ?_) | refine cl 15 tt rfl rfl rfl (hr := aw) (k := ?_) | (refine gdLG ?_ ?_ <;> intro _ <;> try (exfalso; omega)))
    | (show awp _ _ _ _; first | refine goA ?_ | refine rg 1 7 ?_ | (refine cdG ?_ ?_ <;> intro _ <;> try (exfalso; omega)))
    | (show andThen _ _ _ _; refine goN ?_)
    | (show inBlock _ _ _ _; refine goB ?_)
    | (show awpR _ _ _ _ _ _ _; first | refine goR ?_ | refine stepRMakeF (mm := true) (en := rC) (z := r0) tt rfl rfl tt rfl rfl rfl rfl rfl rfl rfl rfl rfl leL sc sc ?_ | refine stepRMakeF (mm := false) (en := rC) (z := r0) tt rfl rfl tt rfl rfl rfl rfl rfl rfl rfl rfl rfl leL sc sc ?_ | refine clR 31 tt rfl rfl rfl (hr := f1) (k := ?_) | refine clR 14 tt rfl rfl rfl (hr := nv) (k := ?_) | refine clR 49 tt rfl rfl rfl (hr := is) (k := ?_) | refine clR 51 tt rfl rfl rfl (hr := rf2) (k := ?_) | refine clR 15 tt rfl rfl rfl (hr := aw) (k := ?_) | (refine gdRG ?_ ?_ <;> intro _ <;> try (exfalso; omega)))
    | (show retPost _ _ _ _ _; refine finG ?_))
  all_goals first | rfl | trace_state
end Go.Proofs.YtlphlodailailaaGreat
