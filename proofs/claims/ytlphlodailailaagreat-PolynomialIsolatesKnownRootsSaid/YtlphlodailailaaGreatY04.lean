/-
  A statement of the seat: what its contract is, and the claim. Conditions: as each says.
-/
import Derived.Test.YtlphlodailailaaGreatY03
import Derived.Test.YtlphlodailailaaGreatA07
import Derived.Test.YtlphlodailailaaGreatA08
import Derived.Test.YtlphlodailailaaGreatA10
set_option linter.unusedVariables false
set_option linter.unusedSimpArgs false
set_option maxHeartbeats 8000000
namespace Go.Proofs.YtlphlodailailaaGreat
open Go.Vw
attribute [local irreducible] awp awpL awpR

def hornK (p : List Rat) (x : Rat) (k : Nat) : Rat := evalP (p.drop (p.length - k)) x
theorem horn_zero (p : List Rat) (x : Rat) : hornK p x 0 = 0 := by unfold hornK; rw [Nat.sub_zero, List.drop_length]; rfl
theorem horn_all (p : List Rat) (x : Rat) : hornK p x p.length = evalP p x := by unfold hornK; rw [Nat.sub_self]; rfl
theorem horn_succ {p : List Rat} {x : Rat} {k : Nat} (h : k < p.length) : hornK p x (k + 1) = hornK p x k * x + p.getD (p.length - 1 - k) 0 := by
  unfold hornK
  rw [show p.length - k = p.length - (k + 1) + 1 by omega, show p.length - 1 - k = p.length - (k + 1) by omega, List.drop_eq_getElem_cons (show p.length - (k + 1) < p.length by omega)]
  simp only [evalP, List.getD_eq_getElem?_getD, List.getElem?_eq_getElem (show p.length - (k + 1) < p.length by omega), Option.getD_some]
theorem rq_zero' : rq 0 = r0 := by decide +kernel
theorem polynomial_Eval (l : List R3) (x : R3) (hn : l.length ≤ 1000) (hl : ∀ r ∈ l, RatOk r 5000000) (hx : RatOk x 5000000) (hk : ∀ k, k ≤ l.length → okQ 5000000 (hornK (l.map rv) (rv x) k)) : Ret Tryz.prog 36 [rsD l, rD x] (· = qD (evalP (l.map rv) (rv x))) := by
  have hb := slices_Backward l
  have hit := backward_iter l hn
  rw [show evalP (l.map rv) (rv x) = hornK (l.map rv) (rv x) l.length from by rw [← horn_all, List.length_map]]
  obtain ⟨H, hH⟩ : ∃ H, hornK (l.map rv) (rv x) = H := ⟨_, rfl⟩
  have h0 : H 0 = 0 := by rw [← hH]; exact horn_zero _ _
  have hs : ∀ k, k < l.length → H (k + 1) = H k * rv x + rv (l.getD ((l.length : Int) - 1 - k).toNat r0) := fun k hk => by
    rw [← hH, horn_succ (by simpa using hk), List.length_map, gRv (by omega), show ((l.length : Int) - 1 - k).toNat = l.length - 1 - k by omega]
  rw [hH] at hk ⊢
  clear hH
  refine ret_of_awpE tab Tryz.func36 rfl rfl (Nat.le_of_ble_eq_true rfl) (fun w0 F0 => ?_)
  refine awpE_seq ?_
  repeat' (first
    | (show awpL _ _ _ _ _; first | refine goL ?_ | (refine gdLG ?_ ?_ <;> intro _ <;> try (exfalso; omega)))
    | (show awp _ _ _ _; first | refine goA ?_ | refine rg 4 4 ?_ | (refine cdG ?_ ?_ <;> intro _ <;> try (exfalso; omega)))
    | (show andThen _ _ _ _; refine goN ?_)
    | (show inBlock _ _ _ _; refine goB ?_)
    | (show awpR _ _ _ _ _ _ _; first | refine goR ?_ | (refine gdRG ?_ ?_ <;> intro _ <;> try (exfalso; omega)))
    | (show retPost _ _ _ _ _; refine finG ?_))
  refine awpE_seq ?_
  repeat' (first
    | (show awpL _ _ _ _ _; first | refine goL ?_ | (refine gdLG ?_ ?_ <;> intro _ <;> try (exfalso; omega)))
    | (show awp _ _ _ _; first | refine goA ?_ | refine rg 4 4 ?_ | (refine cdG ?_ ?_ <;> intro _ <;> try (exfalso; omega)))
    | (show andThen _ _ _ _; refine goN ?_)
    | (show inBlock _ _ _ _; refine goB ?_)
    | (show awpR _ _ _ _ _ _ _; first | refine goR ?_ | (refine gdRG ?_ ?_ <;> intro _ <;> try (exfalso; omega)))
    | (show retPost _ _ _ _ _; refine finG ?_))
  refine awpE_seq2 ?_
  repeat' (first
    | (show awpL _ _ _ _ _; first | refine goL ?_ | refine cl 83 tt rfl rfl rfl (hr := hb) (k := ?_) | (refine gdLG ?_ ?_ <;> intro _ <;> try (exfalso; omega)))
    | (show awp _ _ _ _; first | refine goA ?_ | refine rg 4 4 ?_ | (refine cdG ?_ ?_ <;> intro _ <;> try (exfalso; omega)))
    | (show andThen _ _ _ _; refine goN ?_)
    | (show inBlock _ _ _ _; refine goB ?_)
    | (show awpR _ _ _ _ _ _ _; first | refine goR ?_ | refine clR 83 tt rfl rfl rfl (hr := hb) (k := ?_) | (refine gdRG ?_ ?_ <;> intro _ <;> try (exfalso; omega)))
    | (show retPost _ _ _ _ _; refine finG ?_))
  refine awpEB_conv ((Conv.box 5 (rC r0) rfl leL).trans (Conv.box 4 (cs := [.bool false, .nils, .nils]) (rC r0) rfl leL)) ?_
  refine awpEB_slots [(3, .ptr 3 0), (4, .ptr 4 0), (5, .ptr 5 0), (9, .d (.fn 126 [.ptr [rsD l] 0]))] [(3, .box 29 ((rC x).map V.d)), (4, .box 29 ((rC r0).map V.d)), (5, .box 29 ((rC (rq (H 0))).map V.d))] ⟨rfl, rfl, rfl, rfl, rfl⟩ ⟨rfl, rfl, (by rw [h0, rq_zero']; rfl), trivial⟩ ?_
  refine awpEB_range (N := l.length) (bs := fun k => [(3, .box 29 ((rC x).map V.d)), (4, .box 29 ((rC r0).map V.d)), (5, .box 29 ((rC (rq (H k))).map V.d))]) (ks := [3, 4, 5]) ⟨fun k => rfl, fun k => rfl, fun k => rfl, fun k => ⟨rfl, rfl, rfl, trivial⟩, fun k => ⟨Nat.le_refl _, Nat.le_refl _, Nat.le_refl _, trivial⟩⟩ rfl hit rfl (Nat.le_of_ble_eq_true rfl) (Nat.le_of_ble_eq_true rfl) ?_ ?_
  · intro k hk1 L w0 F0 A io0
    have g1 : RatOk (l.getD ((l.length : Int) - 1 - k).toNat r0) 5000000 := gMem hl (by omega)
    have g2 := hk k (by omega)
    have m1 := rational_Mul (rq (H k)) x (ok_rq (g2.mono (by decide))) (hx.up (by decide))
    have oq : okQ 10000000 (H k * rv x) := (g2.mul (okQ_rv hx (by decide))).mono (by decide)
    rw [rv_rq] at m1
    have a1 := rational_Add (rq (H k * rv x)) (l.getD ((l.length : Int) - 1 - k).toNat r0) (ok_rq (oq.mono (by decide))) (g1.up (by decide))
    rw [rv_rq, ← hs k hk1] at a1
    refine awpI_region ?_ nout
    repeat' (first
      | (show awpL _ _ _ _ _; first | refine goL ?_ | (refine gdLG ?_ ?_ <;> intro _ <;> try (exfalso; omega)))
      | (show awp _ _ _ _; first | refine goA ?_ | refine rg 4 4 ?_ | (refine cdG ?_ ?_ <;> intro _ <;> try (exfalso; omega)))
      | (show andThen _ _ _ _; refine goN ?_)
      | (show inBlock _ _ _ _; refine goB ?_)
      | (show awpR _ _ _ _ _ _ _; first | refine goR ?_ | (refine gdRG ?_ ?_ <;> intro _ <;> try (exfalso; omega)))
      | (show retPost _ _ _ _ _; refine finG ?_))
    intro w0 F0 A io0
    refine awpI_block (awpI_regE (ex := false) 4 [] nout mixed (by kernel_rfl) rfl rfl rfl ?_)
    repeat' (first
      | (show awpL _ _ _ _ _; first | refine goL ?_ | refine cl 81 tt rfl rfl rfl (hr := m1) (k := ?_) | refine cl 82 tt rfl rfl rfl (hr := a1) (k := ?_) | (refine gdLG ?_ ?_ <;> intro _ <;> try (exfalso; omega)))
      | (show awp _ _ _ _; first | refine goA ?_ | refine rg 4 4 ?_ | (refine cdG ?_ ?_ <;> intro _ <;> try (exfalso; omega)))
      | (show andThen _ _ _ _; refine goN ?_)
      | (show inBlock _ _ _ _; refine goB ?_)
      | (show awpR _ _ _ _ _ _ _; first | refine goR ?_ | refine clR 81 tt rfl rfl rfl (hr := m1) (k := ?_) | refine clR 82 tt rfl rfl rfl (hr := a1) (k := ?_) | (refine gdRG ?_ ?_ <;> intro _ <;> try (exfalso; omega)))
      | (show retPost _ _ _ _ _; refine finG ?_))
    exact ⟨rfl, rfl, rfl, rfl, trivial⟩
  · intro D w0 F0 A io0
    refine awpI_seq (awpI_region ?_ nout)
    repeat' (first
      | (show awpL _ _ _ _ _; first | refine goL ?_ | (refine gdLG ?_ ?_ <;> intro _ <;> try (exfalso; omega)))
      | (show awp _ _ _ _; first | refine goA ?_ | refine rg 4 4 ?_ | (refine cdG ?_ ?_ <;> intro _ <;> try (exfalso; omega)))
      | (show andThen _ _ _ _; refine goN ?_)
      | (show inBlock _ _ _ _; refine goB ?_)
      | (show awpR _ _ _ _ _ _ _; first | refine goR ?_ | (refine gdRG ?_ ?_ <;> intro _ <;> try (exfalso; omega)))
      | (show retPost _ _ _ _ _; refine finG ?_))
    refine awpI_ret ?_
    repeat' (first
      | (show awpL _ _ _ _ _; first | refine goL ?_ | (refine gdLG ?_ ?_ <;> intro _ <;> try (exfalso; omega)))
      | (show awp _ _ _ _; first | refine goA ?_ | refine rg 4 4 ?_ | (refine cdG ?_ ?_ <;> intro _ <;> try (exfalso; omega)))
      | (show andThen _ _ _ _; refine goN ?_)
      | (show inBlock _ _ _ _; refine goB ?_)
      | (show awpR _ _ _ _ _ _ _; first | refine goR ?_ | (refine gdRG ?_ ?_ <;> intro _ <;> try (exfalso; omega)))
      | (show retPost _ _ _ _ _; refine finG ?_))
    rfl
end Go.Proofs.YtlphlodailailaaGreat
