/-
  A statement of the seat: what its contract is, and the claim. Conditions: as each says.
-/
import Derived.Test.YtdbfghgmoigohaaGreatY14
import Derived.Test.YtdbfghgmoigohaaGreatA08
set_option linter.unusedVariables false
set_option linter.unusedSimpArgs false
set_option maxHeartbeats 8000000
namespace Go.Proofs.YtdbfghgmoigohaaGreat
open Go.Vw
attribute [local irreducible] awp awpL awpR

theorem law05_light (l : List R3) (h : ∀ r ∈ l, RawR r) (hn : l.length ≤ 9223372036854775807) : Ret Tryz.prog 4 [rsD l] (· = .bool (lightLs l 8)) := by
  have hl : Ret Tryz.prog 15 [rsD l, .int .i64 8] (· = .bool (lightLs l 8)) := made_LightList l 8 h hn (by decide)
  generalize lightLs l 8 = b at *
  refine ret_of_awp tab Tryz.func4 rfl rfl (Nat.le_of_ble_eq_true rfl) (fun w0 F0 => ?_)
  repeat' (first
    | (show awpL _ _ _ _ _; first | refine goL ?_ | refine cl 15 tt rfl rfl rfl (hr := hl) (k := ?_) | (refine gdLG ?_ ?_ <;> intro _ <;> try (exfalso; omega)))
    | (show awp _ _ _ _; first | refine goA ?_ | (refine cdG ?_ ?_ <;> intro _ <;> try (exfalso; omega)))
    | (show andThen _ _ _ _; refine goN ?_)
    | (show inBlock _ _ _ _; refine goB ?_)
    | (show retPost _ _ _ _ _; refine finG ?_))
  rfl
theorem lightLs_ok {l : List R3} {m : Nat} (h : ∀ r ∈ l, RawR r) (hl : lightLs l m = true) : l.length ≤ m ∧ ∀ r ∈ l, RatOk r 9 := by
  unfold lightLs at hl
  simp only [Bool.and_eq_true, decide_eq_true_eq, List.all_eq_true] at hl
  exact ⟨hl.1, fun r hr => (h r hr).light (hl.2 r hr)⟩
theorem light_ht {l : List R3} {m : Nat} (h : l.length ≤ m) (hl : ∀ r ∈ l, RatOk r 9) : HtP (m * 9 + 2) (trimP (l.map rv)) := by
  have h1 := HtP.of_ok (k := 9) (by decide) (l.map rv) (fun x hx => by
    obtain ⟨r, hr, rfl⟩ := List.mem_map.1 hx
    exact okQ_rv (hl r hr) (by decide))
  rw [List.length_map] at h1
  exact h1.trim.mono (by omega)
theorem polynomial_DivRR (a b : List R3) {h l : Nat} (d0 : trimP (b.map rv) ≠ []) (lp : a.length ≤ 100) (ka : ∀ r ∈ a, RatOk r 10000000) (ld : b.length ≤ 100) (kb : ∀ r ∈ b, RatOk r h) (H : HtP h (trimP (a.map rv))) (L : HtP l (trimP (b.map rv))) (hb : h + ((trimP (a.map rv)).length + 1 - (trimP (b.map rv)).length) * l + l ≤ 20000) : Ret Tryz.prog 6 [rsD a, rsD b] (· = .tup [qsD (divP (trimP (a.map rv)) (trimP (b.map rv))).1, qsD (divP (trimP (a.map rv)) (trimP (b.map rv))).2, .int .i64 0]) := by
  have h1 := HtP.gt H
  obtain ⟨N, hN⟩ : ∃ N, (trimP (a.map rv)).length + 1 - (trimP (b.map rv)).length = N := ⟨_, rfl⟩
  rw [hN] at hb
  obtain ⟨K, hK⟩ : ∃ K, K = h + N * l + l := ⟨_, rfl⟩
  exact polynomial_Div a b K (fun r => ∃ k, k + (r.length + 1 - (trimP (b.map rv)).length) ≤ N ∧ HtP (h + k * l) r) lp ld ka (fun r hr => (kb r hr).up (by omega)) d0
    ⟨0, by omega, H.mono (by omega)⟩
    (by
      rintro r ⟨k, hk, hr⟩ tr hle
      refine ⟨k + 1, ?_, ?_⟩
      · have := stepRP_len tr (tr_trim _) d0 hle; omega
      · have := hr.stepRP L (lead_ne (tr_trim _) d0)
        refine this.mono ?_
        rw [Nat.add_mul, Nat.one_mul]; omega)
    (by
      rintro r ⟨k, hk, hr⟩ x hx
      refine (hr.okL x hx).mono ?_
      have := Nat.mul_le_mul_right l (show k ≤ N by omega)
      omega) (by omega) (by omega)
theorem cf_ok {p : List Rat} {K : Nat} (h : ∀ i, okQ K (cf p i)) : ∀ x ∈ p, okQ K x := fun x hx => by
  obtain ⟨i, hi, rfl⟩ := List.getElem_of_mem hx
  have := h i
  rwa [cf_eq hi] at this
end Go.Proofs.YtdbfghgmoigohaaGreat
