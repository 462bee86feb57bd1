/-
  A statement of the seat: what its contract is, and the claim. Conditions: as each says.
-/
import Derived.Test.YtlphlodailailaaGreatY27
import Derived.Test.YtlphlodailailaaGreatA10
set_option linter.unusedVariables false
set_option linter.unusedSimpArgs false
set_option maxHeartbeats 8000000
namespace Go.Proofs.YtlphlodailailaaGreat
open Go.Vw
attribute [local irreducible] awp awpL awpR

theorem ref05_MulQ (p q : List Rat) (K : Nat) (hp : p.length ≤ 100) (hq : q.length ≤ 100) (kp : ∀ x ∈ p, okQ K x) (kq : ∀ x ∈ q, okQ K x) (hK : 1 < K) (hK2 : K * (2 * q.length + 3) ≤ 4000000) : Ret Tryz.prog 26 [qsD p, qsD q] (· = qsD (mulT p q)) := by
  have h := ref05_Mul (p.map rq) (q.map rq) K (by rw [List.length_map]; exact hp) (by rw [List.length_map]; exact hq) (rqs_ok kp) (rqs_ok kq) hK (by rw [List.length_map]; exact hK2)
  rw [map_rv_rqL, map_rv_rqL] at h
  exact h.args (leQRs p (leQRs q (LeT.refl _)))
theorem take_rev {l : List Rat} {i : Nat} (h : i < l.length) : (l.take (i + 1)).reverse = l.getD i 0 :: (l.take i).reverse := by
  rw [List.take_add_one, List.getD_eq_getElem?_getD, List.getElem?_eq_getElem h, List.reverse_append]; rfl
theorem law05_product (l : List Rat) (hl : l.length ≤ 5) (ho : ∀ x ∈ l, okQ 2 x) : Ret Tryz.prog 25 [qsD l] (· = qsD (mP l.reverse)) := by
  have i1 := law05_ints [1] (by decide) (by decide)
  have f1 := ref03_FromIntW 1 (by decide) (by decide)
  rw [show ([1] : List Int).map (fun (v : Int) => (v : Rat)) = [((1 : Int) : Rat)] from rfl] at i1
  obtain ⟨A, hA⟩ : ∃ A : Nat → List Rat, ∀ i, A i = mP (l.take i).reverse := ⟨fun i => mP (l.take i).reverse, fun _ => rfl⟩
  have a0 : A 0 = [((1 : Int) : Rat)] := by rw [hA]; rfl
  have hm : ∀ i, ∀ x ∈ (l.take i).reverse, okQ 2 x := fun i x hx => ho x (List.mem_of_mem_take (List.mem_reverse.1 hx))
  have lA : ∀ i, (A i).length ≤ 6 := fun i => by
    rw [hA, (mP_tr _).2.2.2, List.length_reverse, List.length_take]; omega
  have oA : ∀ i, ∀ x ∈ A i, okQ 22 x := fun i => by
    rw [hA]
    exact fun x hx => ((mP_ht (hm i)).okL x hx).mono (by rw [List.length_reverse, List.length_take]; omega)
  have sA : ∀ i, i < l.length → mulT (A i) [-(l.getD i 0), ((1 : Int) : Rat)] = A (i + 1) := fun i hi => by
    rw [hA, hA, take_rev hi, mP_cons]
    exact trim_ext (mul_comm_eqv _ _)
  rw [show mP l.reverse = A l.length by rw [hA, List.take_of_length_le (Nat.le_refl _)]]
  have ho2 : ∀ i, okQ 2 (l.getD i 0) := fun i => ok_cf ho (by decide) i
  clear hA hm ho
  refine ret_of_awp tab Tryz.func25 rfl rfl (Nat.le_of_ble_eq_true rfl) (fun w0 F0 => ?_)
  repeat' (first
    | (show awpL _ _ _ _ _; first | refine goL ?_ | refine cl 27 tt rfl rfl rfl (hr := i1) (k := ?_) | (refine gdLG ?_ ?_ <;> intro _ <;> try (exfalso; omega)))
    | (show awp _ _ _ _; first | refine goA ?_ | (refine cdG ?_ ?_ <;> intro _ <;> try (exfalso; omega)))
    | (show andThen _ _ _ _; refine goN ?_)
    | (show inBlock _ _ _ _; refine goB ?_)
    | (show retPost _ _ _ _ _; refine finG ?_))
  refine awp_loop1 (fun (i : Nat) => ([(0, .d (qsD l)), (3, .d (qsD (A i))), (4, .d (.int .i64 i))], [])) (fun i => i ≤ l.length) (fun i => l.length - i) 0 (by omega) ⟨rfl, (by rw [a0]; rfl), rfl, rfl⟩ trivial (fun i hi => ?_)
  by_cases h3 : i < l.length
  · have n1 := ref03_NegQ (l.getD i 0) ((ho2 i).mono (by decide))
    have m1 := ref05_MulQ (A i) [-(l.getD i 0), ((1 : Int) : Rat)] 22 (by have := lA i; omega) (by simp) (oA i) (fun x hx => by
      rcases List.mem_cons.1 hx with e | hx
      · rw [e]; exact (ho2 i).neg.mono (by decide)
      · rw [List.mem_singleton.1 hx]; exact (ok_intW (by decide)).mono (by decide)) (by decide) (by simp)
    rw [sA i h3] at m1
    clear lA oA sA ho2
    repeat' (first
      | (show awpL _ _ _ _ _; first | refine goL ?_ | refine cl 73 tt rfl rfl rfl (hr := n1) (k := ?_) | refine cl 31 tt rfl rfl rfl (hr := f1) (k := ?_) | refine cl 26 tt rfl rfl rfl (hr := m1) (k := ?_) | (refine gdLG ?_ ?_ <;> intro _ <;> try (exfalso; omega)))
      | (show awp _ _ _ _; first | refine goA ?_ | (refine cdG ?_ ?_ <;> intro _ <;> try (exfalso; omega)))
      | (show andThen _ _ _ _; refine goN ?_)
      | (show inBlock _ _ _ _; refine goB ?_)
      | (show retPost _ _ _ _ _; refine finG ?_))
    exact ⟨i + 1, by omega, by omega, ⟨rfl, rfl, iv (by omega), rfl⟩, trivial⟩
  · have e : i = l.length := by omega
    subst e
    clear lA oA sA ho2
    repeat' (first
      | (show awpL _ _ _ _ _; first | refine goL ?_ | (refine gdLG ?_ ?_ <;> intro _ <;> try (exfalso; omega)))
      | (show awp _ _ _ _; first | refine goA ?_ | (refine cdG ?_ ?_ <;> intro _ <;> try (exfalso; omega)))
      | (show andThen _ _ _ _; refine goN ?_)
      | (show inBlock _ _ _ _; refine goB ?_)
      | (show retPost _ _ _ _ _; refine finG ?_))
    rfl
end Go.Proofs.YtlphlodailailaaGreat
