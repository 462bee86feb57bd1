/-
  A statement of the seat: what its contract is, and the claim. Conditions: as each says.
-/
import Derived.Test.YtlphlodailailaaGreatY32
import Derived.Test.YtlphlodailailaaGreatA10
set_option linter.unusedVariables false
set_option linter.unusedSimpArgs false
set_option maxHeartbeats 8000000
namespace Go.Proofs.YtlphlodailailaaGreat
open Go.Vw
attribute [local irreducible] awp awpL awpR awpAC

structure IsoL (p : List Rat) (X : I2) (l : List I2) : Prop where
  len : (l.length : Int) = cntV p X
  short : l.length ≤ 1000
  ok : ∀ y ∈ l, okI 150000 y
  holds : ∀ y ∈ l, holdsB p y = true
  inn : ∀ y ∈ l, X.1 ≤ y.1 ∧ y.1 < y.2 ∧ y.2 ≤ X.2
  ord : l.Pairwise (fun a b => a.2 ≤ b.1)
theorem law05_isolates {p : List Rat} (hp : PolOk p) (X : I2) (oX : okI 150000 X) (l : List I2) (h : IsoL p X l) : Ret Tryz.prog 50 [qsD p, qD X.1, qD X.2, isD l] (· = .bool true) := by
  have ct := ref05_CountV hp X.1 X.2 oX.1 oX.2
  rw [show cntV p (X.1, X.2) = (l.length : Int) from h.len.symm] at ct
  have hs := h.short
  have mem : ∀ i, i < l.length → l.getD i (0, 0) ∈ l := fun i hi => by
    rw [List.getD_eq_getElem?_getD, List.getElem?_eq_getElem hi]
    exact List.getElem_mem hi
  have ho : ∀ i, i < l.length → Ret Tryz.prog 55 [qsD p, iQ (l.getD i (0, 0))] (· = .bool true) := fun i hi => by
    have := ref05_Holds hp (l.getD i (0, 0)) (h.ok _ (mem i hi))
    rwa [h.holds _ (mem i hi)] at this
  have s1 : ∀ i, i < l.length → Ret Tryz.prog 28 [qD (l.getD i (0, 0)).1, qD X.1] (· = .bool false) := fun i hi => by
    have := ref03_LessQ (l.getD i (0, 0)).1 X.1 ((h.ok _ (mem i hi)).1.mono (by decide)) (oX.1.mono (by decide))
    rwa [decide_eq_false (Rat.not_lt.2 (h.inn _ (mem i hi)).1)] at this
  have s2 : ∀ i, i < l.length → Ret Tryz.prog 28 [qD X.2, qD (l.getD i (0, 0)).2] (· = .bool false) := fun i hi => by
    have := ref03_LessQ X.2 (l.getD i (0, 0)).2 (oX.2.mono (by decide)) ((h.ok _ (mem i hi)).2.mono (by decide))
    rwa [decide_eq_false (Rat.not_lt.2 (h.inn _ (mem i hi)).2.2)] at this
  have s3 : ∀ i, i < l.length → 0 < i → Ret Tryz.prog 28 [qD (l.getD i (0, 0)).1, qD (l.getD ((i : Int) - 1).toNat (0, 0)).2] (· = .bool false) := fun i hi h0 => by
    have e : ((i : Int) - 1).toNat = i - 1 := by omega
    rw [e]
    have := ref03_LessQ (l.getD i (0, 0)).1 (l.getD (i - 1) (0, 0)).2 ((h.ok _ (mem i hi)).1.mono (by decide)) ((h.ok _ (mem (i - 1) (by omega))).2.mono (by decide))
    have hle : (l.getD (i - 1) (0, 0)).2 ≤ (l.getD i (0, 0)).1 := by
      have hp := List.pairwise_iff_getElem.1 h.ord (i - 1) i (by omega) hi (by omega)
      rw [List.getD_eq_getElem?_getD, List.getD_eq_getElem?_getD, List.getElem?_eq_getElem hi, List.getElem?_eq_getElem (show i - 1 < l.length by omega)]
      exact hp
    rwa [decide_eq_false (Rat.not_lt.2 hle)] at this
  have s4 : ∀ i, i < l.length → Ret Tryz.prog 29 [qD (l.getD i (0, 0)).1, qD (l.getD i (0, 0)).2] (· = .bool false) := fun i hi => by
    have := ref03_SameQ (l.getD i (0, 0)).1 (l.getD i (0, 0)).2 ((h.ok _ (mem i hi)).1.mono (by decide)) ((h.ok _ (mem i hi)).2.mono (by decide))
    rwa [decide_eq_false (fun e => by have := (h.inn _ (mem i hi)).2.1; rw [e] at this; exact Rat.lt_irrefl this)] at this
  clear h mem
  refine ret_of_awp tab Tryz.func50 rfl rfl (Nat.le_of_ble_eq_true rfl) (fun w0 F0 => ?_)
  repeat' (first
    | (show awpL _ _ _ _ _; first | refine goL ?_ | refine cl 23 tt rfl rfl rfl (hr := ct) (k := ?_) | (refine gdLG ?_ ?_ <;> intro _ <;> try (exfalso; omega)))
    | (show awp _ _ _ _; first | refine goA ?_ | refine rg 6 40 ?_ | refine rg 8 34 ?_ | (refine cdG ?_ ?_ <;> intro _ <;> try (exfalso; omega)))
    | (show andThen _ _ _ _; refine goN ?_)
    | (show inBlock _ _ _ _; refine goB ?_)
    | (show awpR _ _ _ _ _ _ _; first | refine goR ?_ | refine clR 23 tt rfl rfl rfl (hr := ct) (k := ?_) | (refine gdRG ?_ ?_ <;> intro _ <;> try (exfalso; omega)))
    | (show retPost _ _ _ _ _; refine finG ?_))
  refine awp_loop1 (fun (i : Nat) => ([(0, .d (qsD p)), (3, .d (isD l)), (5, .ptr 5 0), (6, .ptr 6 0), (8, .d (.bool false)), (9, .d (.int .i64 i))], [(5, .box 29 ((rC (rq X.1)).map V.d)), (6, .box 29 ((rC (rq X.2)).map V.d))])) (fun i => i ≤ l.length) (fun i => l.length - i) 0 (by omega) ⟨rfl, rfl, rfl, rfl, rfl, rfl, rfl⟩ ⟨rfl, rfl, trivial⟩ (fun i hi => ?_)
  by_cases h3 : i < l.length
  · have t0 := ho i h3
    have t1 := s1 i h3
    have t2 := s2 i h3
    have t4 := s4 i h3
    by_cases h0 : 0 < i
    · have t3 := s3 i h3 h0
      clear ho s1 s2 s3 s4 ct oX hp
      repeat' (first
        | (show awpL _ _ _ _ _; first | refine goL ?_ | refine cl 55 tt rfl rfl rfl (hr := t0) (k := ?_) | refine cl 28 tt rfl rfl rfl (hr := t1) (k := ?_) | refine cl 28 tt rfl rfl rfl (hr := t2) (k := ?_) | refine cl 28 tt rfl rfl rfl (hr := t3) (k := ?_) | refine cl 29 tt rfl rfl rfl (hr := t4) (k := ?_) | (refine gdLG ?_ ?_ <;> intro _ <;> try (exfalso; omega)))
        | (show awp _ _ _ _; first | refine goA ?_ | refine rg 6 40 ?_ | refine rg 8 34 ?_ | (refine cdG ?_ ?_ <;> intro _ <;> try (exfalso; omega)))
        | (show andThen _ _ _ _; refine goN ?_)
        | (show inBlock _ _ _ _; refine goB ?_)
        | (show awpR _ _ _ _ _ _ _; first | refine goR ?_ | refine clR 55 tt rfl rfl rfl (hr := t0) (k := ?_) | refine clR 28 tt rfl rfl rfl (hr := t1) (k := ?_) | refine clR 28 tt rfl rfl rfl (hr := t2) (k := ?_) | refine clR 28 tt rfl rfl rfl (hr := t3) (k := ?_) | refine clR 29 tt rfl rfl rfl (hr := t4) (k := ?_) | (refine gdRG ?_ ?_ <;> intro _ <;> try (exfalso; omega)))
        | (show retPost _ _ _ _ _; refine finG ?_))
      exact ⟨i + 1, by omega, by omega, ⟨rfl, rfl, rfl, rfl, rfl, iv (by omega), rfl⟩, rfl, rfl, trivial⟩
    · clear ho s1 s2 s3 s4 ct oX hp
      repeat' (first
        | (show awpL _ _ _ _ _; first | refine goL ?_ | refine cl 55 tt rfl rfl rfl (hr := t0) (k := ?_) | refine cl 28 tt rfl rfl rfl (hr := t1) (k := ?_) | refine cl 28 tt rfl rfl rfl (hr := t2) (k := ?_) | refine cl 29 tt rfl rfl rfl (hr := t4) (k := ?_) | (refine gdLG ?_ ?_ <;> intro _ <;> try (exfalso; omega)))
        | (show awp _ _ _ _; first | refine goA ?_ | refine rg 6 40 ?_ | refine rg 8 34 ?_ | (refine cdG ?_ ?_ <;> intro _ <;> try (exfalso; omega)))
        | (show andThen _ _ _ _; refine goN ?_)
        | (show inBlock _ _ _ _; refine goB ?_)
        | (show awpR _ _ _ _ _ _ _; first | refine goR ?_ | refine clR 55 tt rfl rfl rfl (hr := t0) (k := ?_) | refine clR 28 tt rfl rfl rfl (hr := t1) (k := ?_) | refine clR 28 tt rfl rfl rfl (hr := t2) (k := ?_) | refine clR 29 tt rfl rfl rfl (hr := t4) (k := ?_) | (refine gdRG ?_ ?_ <;> intro _ <;> try (exfalso; omega)))
        | (show retPost _ _ _ _ _; refine finG ?_))
      exact ⟨i + 1, by omega, by omega, ⟨rfl, rfl, rfl, rfl, rfl, iv (by omega), rfl⟩, rfl, rfl, trivial⟩
  · have e : i = l.length := by omega
    subst e
    clear ho s1 s2 s3 s4 ct oX hp
    repeat' (first
      | (show awpL _ _ _ _ _; first | refine goL ?_ | (refine gdLG ?_ ?_ <;> intro _ <;> try (exfalso; omega)))
      | (show awp _ _ _ _; first | refine goA ?_ | refine rg 6 40 ?_ | refine rg 8 34 ?_ | (refine cdG ?_ ?_ <;> intro _ <;> try (exfalso; omega)))
      | (show andThen _ _ _ _; refine goN ?_)
      | (show inBlock _ _ _ _; refine goB ?_)
      | (show awpR _ _ _ _ _ _ _; first | refine goR ?_ | (refine gdRG ?_ ?_ <;> intro _ <;> try (exfalso; omega)))
      | (show retPost _ _ _ _ _; refine finG ?_))
    rfl
end Go.Proofs.YtlphlodailailaaGreat
