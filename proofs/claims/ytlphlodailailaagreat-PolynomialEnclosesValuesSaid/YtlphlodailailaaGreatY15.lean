/-
  A statement of the seat: what its contract is, and the claim. Conditions: as each says.
-/
import Derived.Test.YtlphlodailailaaGreatS61
import Derived.Test.YtlphlodailailaaGreatA08
import Derived.Test.YtlphlodailailaaGreatA09
set_option linter.unusedVariables false
set_option linter.unusedSimpArgs false
set_option maxHeartbeats 8000000
namespace Go.Proofs.YtlphlodailailaaGreat
open Go.Vw
attribute [local irreducible] awp awpL awpR

def encK (p : List Rat) (X : I2) : Nat → I2
  | 0 => (0, 0)
  | k + 1 => addI (if k = 0 then encK p X k else mulI (encK p X k) X) (p.getD (p.length - 1 - k) 0, p.getD (p.length - 1 - k) 0)
theorem encK_in {p : List Rat} {X : I2} {x : Rat} (hx : In X x) : ∀ k, k ≤ p.length → In (encK p X k) (hornK p x k)
  | 0, _ => by rw [horn_zero]; exact ⟨Rat.le_refl, Rat.le_refl⟩
  | k + 1, h => by
    have ih := encK_in (p := p) hx k (by omega)
    rw [horn_succ (p := p) (show k < p.length by omega), encK]
    refine in_add ?_ ⟨Rat.le_refl, Rat.le_refl⟩
    split
    · rename_i e
      subst e
      rw [horn_zero, Rat.zero_mul]
      exact ⟨Rat.le_refl, Rat.le_refl⟩
    · exact in_mulI ih hx
theorem encK_ok {p : List Rat} {X : I2} {K L : Nat} (hp : ∀ y ∈ p, okQ K y) (hX : okI L X) (hK : 1 < K) : ∀ k, k ≤ p.length → okI (2 + k * (K + L)) (encK p X k)
  | 0, _ => ⟨okQ_zero (by omega), okQ_zero (by omega)⟩
  | k + 1, h => by
    have ih := encK_ok hp hX hK k (by omega)
    have oc := ok_cf hp hK (p.length - 1 - k)
    rw [encK]
    have h1 : okI (2 + k * (K + L) + L) (if k = 0 then encK p X k else mulI (encK p X k) X) := by
      split
      · exact ih.mono (by omega)
      · exact mulI_ok ih hX
    refine okI.mono (addI_ok h1 ⟨oc, oc⟩) ?_
    rw [Nat.add_mul]; omega
theorem encK_le {p : List Rat} {X : I2} (hX : X.1 ≤ X.2) (k : Nat) (hk : k ≤ p.length) : (encK p X k).1 ≤ (encK p X k).2 := by
  have := encK_in (p := p) (in_lo hX) k hk
  exact Rat.le_trans this.1 this.2
theorem mulI_le {a b : I2} (ha : a.1 ≤ a.2) (hb : b.1 ≤ b.2) : (mulI a b).1 ≤ (mulI a b).2 := by
  have := in_mulI (in_lo ha) (in_lo hb)
  exact Rat.le_trans this.1 this.2
theorem polynomial_Enclose (l : List R3) (a b : R3) (hn : l.length ≤ 40) (hl : ∀ r ∈ l, RatOk r 200) (ha : RatOk a 200) (hb : RatOk b 200) : Ret Tryz.prog 47 [rsD l, iD a b] (· = iQ (encK (trimP (l.map rv)) (takeI (rv a) (rv b)) (trimP (l.map rv)).length)) := by
  have t1 := polynomial_Trim l (by omega) (fun r hr => (hl r hr).up (by decide))
  have t2 := polynomial_Degree l (by omega) (fun r hr => (hl r hr).up (by decide))
  have pl := trim_len (l.map rv)
  rw [List.length_map] at pl
  have op : ∀ y ∈ trimP (l.map rv), okQ 200 y := fun y hy => by
    obtain ⟨r, hr, rfl⟩ := List.mem_map.1 (trim_mem hy)
    exact okQ_rv (hl r hr) (by decide)
  generalize trimP (l.map rv) = p at *
  have hpm : (p.map rq).length = p.length := List.length_map _
  have hbk := (slices_Backward (p.map rq)).args (leQRs p (LeT.refl _))
  have hit := backward_iter (p.map rq) (by omega)
  rw [hpm] at hit
  have oX : okI 200 (takeI (rv a) (rv b)) := takeI_ok (okQ_rv ha (by decide)) (okQ_rv hb (by decide)) (by decide)
  have hX := takeI_le (rv a) (rv b)
  obtain ⟨E, hE⟩ : ∃ E, encK p (takeI (rv a) (rv b)) = E := ⟨_, rfl⟩
  have h0 : E 0 = (0, 0) := by rw [← hE]; rfl
  have oE : ∀ k, k ≤ p.length → okI 20000 (E k) := fun k hk => by
    rw [← hE]
    refine (encK_ok op oX (by decide) k hk).mono ?_
    have := Nat.mul_le_mul_right (200 + 200) (show k ≤ 40 by omega)
    omega
  have lE : ∀ k, k ≤ p.length → (E k).1 ≤ (E k).2 := fun k hk => by rw [← hE]; exact encK_le hX k hk
  have sE : ∀ k, E (k + 1) = addI (if k = 0 then E k else mulI (E k) (takeI (rv a) (rv b))) (p.getD (p.length - 1 - k) 0, p.getD (p.length - 1 - k) 0) := fun k => by rw [← hE]; rfl
  rw [hE]
  clear hE
  refine ret_of_awpE tab Tryz.func47 rfl rfl (Nat.le_of_ble_eq_true rfl) (fun w0 F0 => ?_)
  refine awpE_seq ?_
  repeat' (first
    | (show awpL _ _ _ _ _; first | refine goL ?_ | (refine gdLG ?_ ?_ <;> intro _ <;> try (exfalso; omega)))
    | (show awp _ _ _ _; first | refine goA ?_ | (refine cdG ?_ ?_ <;> intro _ <;> try (exfalso; omega)))
    | (show andThen _ _ _ _; refine goN ?_)
    | (show inBlock _ _ _ _; refine goB ?_)
    | (show retPost _ _ _ _ _; refine finG ?_))
  refine awpE_seq ?_
  repeat' (first
    | (show awpL _ _ _ _ _; first | refine goL ?_ | (refine gdLG ?_ ?_ <;> intro _ <;> try (exfalso; omega)))
    | (show awp _ _ _ _; first | refine goA ?_ | (refine cdG ?_ ?_ <;> intro _ <;> try (exfalso; omega)))
    | (show andThen _ _ _ _; refine goN ?_)
    | (show inBlock _ _ _ _; refine goB ?_)
    | (show retPost _ _ _ _ _; refine finG ?_))
  refine awpE_seq2 ?_
  repeat' (first
    | (show awpL _ _ _ _ _; first | refine goL ?_ | refine cl 60 tt rfl rfl rfl (hr := t1) (k := ?_) | refine cl 83 tt rfl rfl rfl (hr := hbk) (k := ?_) | (refine gdLG ?_ ?_ <;> intro _ <;> try (exfalso; omega)))
    | (show awp _ _ _ _; first | refine goA ?_ | (refine cdG ?_ ?_ <;> intro _ <;> try (exfalso; omega)))
    | (show andThen _ _ _ _; refine goN ?_)
    | (show inBlock _ _ _ _; refine goB ?_)
    | (show retPost _ _ _ _ _; refine finG ?_))
  refine awpEB_conv ((Conv.box 5 (iC r0 r0) rfl leL).trans (Conv.box 4 (cs := [.bool false, .nils, .nils, .bool false, .nils, .nils]) (iC r0 r0) rfl leL)) ?_
  refine awpEB_slots [(2, .ptr 2 0), (3, .ptr 3 0), (4, .ptr 4 0), (5, .ptr 5 0), (10, .d (.fn 126 [.ptr [rsD (p.map rq)] 0]))] [(2, .box 23 [.d (rsD l)]), (3, .box 55 ((iC a b).map V.d)), (4, .box 55 ((iC r0 r0).map V.d)), (5, .box 55 ((iC (rq (E 0).1) (rq (E 0).2)).map V.d))] ⟨rfl, rfl, rfl, rfl, rfl, rfl⟩ ⟨rfl, rfl, rfl, (by rw [h0, rq_zero']; rfl), trivial⟩ ?_
  refine awpEB_range (N := p.length) (bs := fun k => [(2, .box 23 [.d (rsD l)]), (3, .box 55 ((iC a b).map V.d)), (4, .box 55 ((iC r0 r0).map V.d)), (5, .box 55 ((iC (rq (E k).1) (rq (E k).2)).map V.d))]) (ks := [2, 3, 4, 5]) ⟨fun k => rfl, fun k => rfl, fun k => rfl, fun k => ⟨rfl, rfl, rfl, rfl, trivial⟩, fun k => ⟨Nat.le_refl _, Nat.le_refl _, Nat.le_refl _, Nat.le_refl _, trivial⟩⟩ rfl hit rfl (Nat.le_of_ble_eq_true rfl) (Nat.le_of_ble_eq_true rfl) ?_ ?_
  · intro k hk1 L w0 F0 A io0
    have ei : ((p.length : Int) - 1 - k).toNat = p.length - 1 - k := by omega
    have ec : (p.map rq).getD ((p.length : Int) - 1 - k).toNat r0 = rq (p.getD (p.length - 1 - k) 0) := by
      rw [ei, List.getD_eq_getElem?_getD, List.getElem?_map, List.getElem?_eq_getElem (by omega)]
      simp [List.getD_eq_getElem?_getD, show p.length - 1 - k < p.length by omega]
    have oc := ok_cf op (by decide) (p.length - 1 - k)
    have ek := oE k (by omega)
    have lk := lE k (by omega)
    have es := sE k
    obtain ⟨c, hc⟩ : ∃ c, p.getD (p.length - 1 - k) 0 = c := ⟨_, rfl⟩
    rw [show cf p (p.length - 1 - k) = c from hc] at oc
    rw [hc] at ec es
    obtain ⟨rc, hrc⟩ : ∃ rc, (p.map rq).getD ((p.length : Int) - 1 - k).toNat r0 = rc := ⟨_, rfl⟩
    rw [hrc] at ec ⊢
    have takeE : takeI (rv (rq (E k).1)) (rv (rq (E k).2)) = E k := by rw [rv_rq, rv_rq, takeI_of lk]
    have takec : takeI (rv rc) (rv rc) = (c, c) := by rw [ec, rv_rq, takeI_of Rat.le_refl]
    have okc : RatOk rc 50000 := by rw [ec]; exact ok_rq (oc.mono (by decide))
    by_cases k0 : k = 0
    · rw [if_pos k0] at es
      have a1 := interval_Add (rq (E k).1) (rq (E k).2) rc rc (ok_rq (ek.1.mono (by decide))) (ok_rq (ek.2.mono (by decide))) okc okc
      rw [takeE, takec, ← es] at a1
      generalize E (k + 1) = E2 at *
      clear oE lE sE op
      refine awpI_seq (awpI_region ?_ nout)
      repeat' (first
        | (show awpL _ _ _ _ _; first | refine goL ?_ | (refine gdLG ?_ ?_ <;> intro _ <;> try (exfalso; omega)))
        | (show awp _ _ _ _; first | refine goA ?_ | (refine cdG ?_ ?_ <;> intro _ <;> try (exfalso; omega)))
        | (show andThen _ _ _ _; refine goN ?_)
        | (show inBlock _ _ _ _; refine goB ?_)
        | (show retPost _ _ _ _ _; refine finG ?_))
      refine awpI_region ?_ nout
      repeat' (first
        | (show awpL _ _ _ _ _; first | refine goL ?_ | (refine gdLG ?_ ?_ <;> intro _ <;> try (exfalso; omega)))
        | (show awp _ _ _ _; first | refine goA ?_ | (refine cdG ?_ ?_ <;> intro _ <;> try (exfalso; omega)))
        | (show andThen _ _ _ _; refine goN ?_)
        | (show inBlock _ _ _ _; refine goB ?_)
        | (show retPost _ _ _ _ _; refine finG ?_))
      intro w0 F0 A io0
      refine awpI_block (awpI_seq (awpI_seq (awpI_region ?_ nout)))
      repeat' (first
        | (show awpL _ _ _ _ _; first | refine goL ?_ | refine cl 43 tt rfl rfl rfl (hr := t2) (k := ?_) | (refine gdLG ?_ ?_ <;> intro _ <;> try (exfalso; omega)))
        | (show awp _ _ _ _; first | refine goA ?_ | (refine cdG ?_ ?_ <;> intro _ <;> try (exfalso; omega)))
        | (show andThen _ _ _ _; refine goN ?_)
        | (show inBlock _ _ _ _; refine goB ?_)
        | (show retPost _ _ _ _ _; refine finG ?_))
      refine awpI_cond rfl (fun h => ?_) (fun h => ?_)
      · exact absurd (of_decide_eq_true h) (by omega)
      · refine awpI_skip ?_
        show awpI _ _ _ _ _ _
        refine awpI_region ?_ nout
        repeat' (first
          | (show awpL _ _ _ _ _; first | refine goL ?_ | refine cl 94 tt rfl rfl rfl (hr := a1) (k := ?_) | (refine gdLG ?_ ?_ <;> intro _ <;> try (exfalso; omega)))
          | (show awp _ _ _ _; first | refine goA ?_ | (refine cdG ?_ ?_ <;> intro _ <;> try (exfalso; omega)))
          | (show andThen _ _ _ _; refine goN ?_)
          | (show inBlock _ _ _ _; refine goB ?_)
          | (show retPost _ _ _ _ _; refine finG ?_))
        exact ⟨rfl, rfl, rfl, rfl, rfl, trivial⟩
    · rw [if_neg k0] at es
      have m1 := interval_Mul (rq (E k).1) (rq (E k).2) a b (ok_rq (ek.1.mono (by decide))) (ok_rq (ek.2.mono (by decide))) (ha.up (by decide)) (hb.up (by decide))
      rw [takeE] at m1
      have om := mulI_ok ek oX
      have lm := mulI_le lk hX
      generalize mulI (E k) (takeI (rv a) (rv b)) = Y at *
      have a1 := interval_Add (rq Y.1) (rq Y.2) rc rc (ok_rq (om.1.mono (by decide))) (ok_rq (om.2.mono (by decide))) okc okc
      rw [rv_rq, rv_rq, takeI_of lm, takec, show ((Y.1, Y.2) : I2) = Y from rfl, ← es] at a1
      generalize E (k + 1) = E2 at *
      clear oE lE sE op
      refine awpI_seq (awpI_region ?_ nout)
      repeat' (first
        | (show awpL _ _ _ _ _; first | refine goL ?_ | (refine gdLG ?_ ?_ <;> intro _ <;> try (exfalso; omega)))
        | (show awp _ _ _ _; first | refine goA ?_ | (refine cdG ?_ ?_ <;> intro _ <;> try (exfalso; omega)))
        | (show andThen _ _ _ _; refine goN ?_)
        | (show inBlock _ _ _ _; refine goB ?_)
        | (show retPost _ _ _ _ _; refine finG ?_))
      refine awpI_region ?_ nout
      repeat' (first
        | (show awpL _ _ _ _ _; first | refine goL ?_ | (refine gdLG ?_ ?_ <;> intro _ <;> try (exfalso; omega)))
        | (show awp _ _ _ _; first | refine goA ?_ | (refine cdG ?_ ?_ <;> intro _ <;> try (exfalso; omega)))
        | (show andThen _ _ _ _; refine goN ?_)
        | (show inBlock _ _ _ _; refine goB ?_)
        | (show retPost _ _ _ _ _; refine finG ?_))
      intro w0 F0 A io0
      refine awpI_block (awpI_seq (awpI_seq (awpI_region ?_ nout)))
      repeat' (first
        | (show awpL _ _ _ _ _; first | refine goL ?_ | refine cl 43 tt rfl rfl rfl (hr := t2) (k := ?_) | (refine gdLG ?_ ?_ <;> intro _ <;> try (exfalso; omega)))
        | (show awp _ _ _ _; first | refine goA ?_ | (refine cdG ?_ ?_ <;> intro _ <;> try (exfalso; omega)))
        | (show andThen _ _ _ _; refine goN ?_)
        | (show inBlock _ _ _ _; refine goB ?_)
        | (show retPost _ _ _ _ _; refine finG ?_))
      refine awpI_cond rfl (fun h => ?_) (fun h => ?_)
      · refine awpI_region ?_ nout
        repeat' (first
          | (show awpL _ _ _ _ _; first | refine goL ?_ | refine cl 93 tt rfl rfl rfl (hr := m1) (k := ?_) | (refine gdLG ?_ ?_ <;> intro _ <;> try (exfalso; omega)))
          | (show awp _ _ _ _; first | refine goA ?_ | (refine cdG ?_ ?_ <;> intro _ <;> try (exfalso; omega)))
          | (show andThen _ _ _ _; refine goN ?_)
          | (show inBlock _ _ _ _; refine goB ?_)
          | (show retPost _ _ _ _ _; refine finG ?_))
        refine awpI_region ?_ nout
        repeat' (first
          | (show awpL _ _ _ _ _; first | refine goL ?_ | refine cl 94 tt rfl rfl rfl (hr := a1) (k := ?_) | (refine gdLG ?_ ?_ <;> intro _ <;> try (exfalso; omega)))
          | (show awp _ _ _ _; first | refine goA ?_ | (refine cdG ?_ ?_ <;> intro _ <;> try (exfalso; omega)))
          | (show andThen _ _ _ _; refine goN ?_)
          | (show inBlock _ _ _ _; refine goB ?_)
          | (show retPost _ _ _ _ _; refine finG ?_))
        exact ⟨rfl, rfl, rfl, rfl, rfl, trivial⟩
      · exact absurd (of_decide_eq_false h) (by omega)
  · intro D w0 F0 A io0
    refine awpI_seq (awpI_region ?_ nout)
    repeat' (first
      | (show awpL _ _ _ _ _; first | refine goL ?_ | (refine gdLG ?_ ?_ <;> intro _ <;> try (exfalso; omega)))
      | (show awp _ _ _ _; first | refine goA ?_ | (refine cdG ?_ ?_ <;> intro _ <;> try (exfalso; omega)))
      | (show andThen _ _ _ _; refine goN ?_)
      | (show inBlock _ _ _ _; refine goB ?_)
      | (show retPost _ _ _ _ _; refine finG ?_))
    refine awpI_ret ?_
    repeat' (first
      | (show awpL _ _ _ _ _; first | refine goL ?_ | (refine gdLG ?_ ?_ <;> intro _ <;> try (exfalso; omega)))
      | (show awp _ _ _ _; first | refine goA ?_ | (refine cdG ?_ ?_ <;> intro _ <;> try (exfalso; omega)))
      | (show andThen _ _ _ _; refine goN ?_)
      | (show inBlock _ _ _ _; refine goB ?_)
      | (show retPost _ _ _ _ _; refine finG ?_))
    rfl
theorem ref05_Eval (l : List R3) (x : R3) (K L : Nat) (hn : l.length ≤ 40) (ho : ∀ r ∈ l, RatOk r K) (hx : RatOk x L) (hK : 1 < K) (hL : 1 < L) (hKL : K + L ≤ 2000) : Ret Tryz.prog 48 [rsD l, rD x] (· = qD (evalP (l.map rv) (rv x))) := by
  have oq : ∀ y ∈ l.map rv, okQ K y := fun y hy => by
    obtain ⟨r, hr, rfl⟩ := List.mem_map.1 hy
    exact okQ_rv (ho r hr) hK
  have hk : ∀ k, k ≤ l.length → okQ 100000 (hornK (l.map rv) (rv x) k) := fun k hk2 => by
    refine (horn_ok oq (okQ_rv hx hL) hK k (by rw [List.length_map]; exact hk2)).mono ?_
    have := Nat.mul_le_mul (show k ≤ 40 by omega) hKL
    omega
  rw [show evalP (l.map rv) (rv x) = hornK (l.map rv) (rv x) l.length from by rw [← horn_all, List.length_map]]
  obtain ⟨H, hH⟩ : ∃ H, hornK (l.map rv) (rv x) = H := ⟨_, rfl⟩
  have h0 : H 0 = 0 := by rw [← hH]; exact horn_zero _ _
  have hs : ∀ k, k < l.length → H (k + 1) = H k * rv x + rv (l.getD ((l.length : Int) - 1 - k).toNat r0) := fun k hk => by
    rw [← hH, horn_succ (by simpa using hk), List.length_map, gRv (by omega), show ((l.length : Int) - 1 - k).toNat = l.length - 1 - k by omega]
  rw [hH] at hk ⊢
  clear hH oq
  refine ret_of_awp tab Tryz.func48 rfl rfl (Nat.le_of_ble_eq_true rfl) (fun w0 F0 => ?_)
  repeat' (first
    | (show awpL _ _ _ _ _; first | refine goL ?_ | (refine gdLG ?_ ?_ <;> intro _ <;> try (exfalso; omega)))
    | (show awp _ _ _ _; first | refine goA ?_ | refine rg 5 7 ?_ | (refine cdG ?_ ?_ <;> intro _ <;> try (exfalso; omega)))
    | (show andThen _ _ _ _; refine goN ?_)
    | (show inBlock _ _ _ _; refine goB ?_)
    | (show awpR _ _ _ _ _ _ _; first | refine goR ?_ | (refine gdRG ?_ ?_ <;> intro _ <;> try (exfalso; omega)))
    | (show retPost _ _ _ _ _; refine finG ?_))
  refine awp_conv ((Conv.box 5 (cs := [.bool false, .nils, .nils]) (rC r0) rfl leL).trans (Conv.box 4 (cs := [.bool false, .nils, .nils]) (rC r0) rfl leL)) ?_
  refine awp_loop1 (fun (k : Nat) => ([(0, .d (rsD l)), (3, .ptr 3 0), (4, .ptr 4 0), (5, .ptr 5 0), (6, .d (.int .i64 ((l.length : Int) - 1 - k)))], [(3, .box 29 ((rC x).map V.d)), (4, .box 29 ((rC r0).map V.d)), (5, .box 29 ((rC (rq (H k))).map V.d))])) (fun k => k ≤ l.length) (fun k => l.length - k) 0 (by omega) ⟨rfl, rfl, rfl, rfl, iv (by omega), rfl⟩ ⟨rfl, rfl, (by rw [h0, rq_zero']; rfl), trivial⟩ (fun k hi => ?_)
  by_cases h3 : k < l.length
  · have g1 : RatOk (l.getD ((l.length : Int) - 1 - k).toNat r0) K := gMem ho (by omega)
    have g2 := hk k (by omega)
    have m1 := ref03_Mul (rq (H k)) x (ok_rq (g2.mono (by decide))) (hx.up (by omega))
    have oq : okQ 200000 (H k * rv x) := (g2.mul (okQ_rv hx hL)).mono (by omega)
    rw [rv_rq] at m1
    have a1 := ref03_Add (rq (H k * rv x)) (l.getD ((l.length : Int) - 1 - k).toNat r0) (ok_rq (oq.mono (by decide))) (g1.up (by omega))
    rw [rv_rq, ← hs k h3] at a1
    clear ho hk hs
    repeat' (first
      | (show awpL _ _ _ _ _; first | refine goL ?_ | refine cl 41 tt rfl rfl rfl (hr := m1) (k := ?_) | refine cl 38 tt rfl rfl rfl (hr := a1) (k := ?_) | (refine gdLG ?_ ?_ <;> intro _ <;> try (exfalso; omega)))
      | (show awp _ _ _ _; first | refine goA ?_ | refine rg 5 7 ?_ | (refine cdG ?_ ?_ <;> intro _ <;> try (exfalso; omega)))
      | (show andThen _ _ _ _; refine goN ?_)
      | (show inBlock _ _ _ _; refine goB ?_)
      | (show awpR _ _ _ _ _ _ _; first | refine goR ?_ | refine clR 41 tt rfl rfl rfl (hr := m1) (k := ?_) | refine clR 38 tt rfl rfl rfl (hr := a1) (k := ?_) | (refine gdRG ?_ ?_ <;> intro _ <;> try (exfalso; omega)))
      | (show retPost _ _ _ _ _; refine finG ?_))
    exact ⟨k + 1, by omega, by omega, ⟨rfl, rfl, rfl, rfl, iv (by omega), rfl⟩, rfl, rfl, rfl, trivial⟩
  · have e : k = l.length := by omega
    subst e
    clear ho hk hs
    repeat' (first
      | (show awpL _ _ _ _ _; first | refine goL ?_ | (refine gdLG ?_ ?_ <;> intro _ <;> try (exfalso; omega)))
      | (show awp _ _ _ _; first | refine goA ?_ | refine rg 5 7 ?_ | (refine cdG ?_ ?_ <;> intro _ <;> try (exfalso; omega)))
      | (show andThen _ _ _ _; refine goN ?_)
      | (show inBlock _ _ _ _; refine goB ?_)
      | (show awpR _ _ _ _ _ _ _; first | refine goR ?_ | (refine gdRG ?_ ?_ <;> intro _ <;> try (exfalso; omega)))
      | (show retPost _ _ _ _ _; refine finG ?_))
    rfl
end Go.Proofs.YtlphlodailailaaGreat
