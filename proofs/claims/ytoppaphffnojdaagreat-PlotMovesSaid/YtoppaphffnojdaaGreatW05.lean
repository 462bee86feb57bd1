/-
  A statement of the seat: what its contract is, and the claim. Conditions: as each says.
-/
import Derived.Test.YtoppaphffnojdaaGreatA09
import Derived.Test.YtoppaphffnojdaaGreatPlotsB
import Derived.Test.YtoppaphffnojdaaGreatA10
set_option linter.unusedVariables false
set_option linter.unusedSimpArgs false
set_option maxHeartbeats 8000000
namespace Go.Proofs.YtoppaphffnojdaaGreat
open Go.Vw
attribute [local irreducible] awp awpL awpR

theorem made_LightW (r : R3) (h : RawR r) : Ret Tryz.prog 8 [rD r] (· = .bool (lightR r)) := by
  obtain ⟨h1, h2, h3, h4⟩ := h
  unfold lightR
  obtain ⟨x, m, d⟩ := r
  simp only at h3 h4 ⊢
  rw [show decide (m.length ≤ 8) = decide ((m.length : Int) ≤ 8) from decide_eq_decide.2 (by omega), show decide (d.length ≤ 8) = decide ((d.length : Int) ≤ 8) from decide_eq_decide.2 (by omega)]
  refine ret_of_awp tab Tryz.func8 rfl rfl (Nat.le_of_ble_eq_true rfl) (fun w0 F0 => ?_)
  repeat' (first
    | (show awpL _ _ _ _ _; first | refine goL ?_ | (refine gdLG ?_ ?_ <;> intro _ <;> try (exfalso; omega)))
    | (show awp _ _ _ _; first | refine goA ?_ | (refine cdG ?_ ?_ <;> intro _ <;> try (exfalso; omega)))
    | (show andThen _ _ _ _; refine goN ?_)
    | (show inBlock _ _ _ _; refine goB ?_)
    | (show retPost _ _ _ _ _; refine finG ?_)
    | (show retPostB _ _ _ _ _ _; first | refine finB rfl rfl ?_ ?_ | refine finBT rfl rfl rfl ?_ ?_))
  all_goals first | rfl | (rename_i hc; simp [hc])
theorem plot_mark (n : Int) (h0 : 0 ≤ n) (h1 : n < 1000000) : Ret Tryz.prog 49 [.int .i64 n] (· = .int .u8 (markZ n)) := by
  unfold markZ
  by_cases c1 : n = 0
  · rw [if_pos c1]
    refine ret_of_awp tab Tryz.func49 rfl rfl (Nat.le_of_ble_eq_true rfl) (fun w0 F0 => ?_)
    repeat' (first
      | (show awpL _ _ _ _ _; first | refine goL ?_ | (refine gdLG ?_ ?_ <;> intro _ <;> try (exfalso; omega)))
      | (show awp _ _ _ _; first | refine goA ?_ | (refine cdG ?_ ?_ <;> intro _ <;> try (exfalso; omega)))
      | (show andThen _ _ _ _; refine goN ?_)
      | (show inBlock _ _ _ _; refine goB ?_)
      | (show retPost _ _ _ _ _; refine finG ?_)
      | (show retPostB _ _ _ _ _ _; first | refine finB rfl rfl ?_ ?_ | refine finBT rfl rfl rfl ?_ ?_))
    rfl
  rw [if_neg c1]
  by_cases c2 : 9 < n
  · rw [if_pos c2]
    refine ret_of_awp tab Tryz.func49 rfl rfl (Nat.le_of_ble_eq_true rfl) (fun w0 F0 => ?_)
    repeat' (first
      | (show awpL _ _ _ _ _; first | refine goL ?_ | (refine gdLG ?_ ?_ <;> intro _ <;> try (exfalso; omega)))
      | (show awp _ _ _ _; first | refine goA ?_ | (refine cdG ?_ ?_ <;> intro _ <;> try (exfalso; omega)))
      | (show andThen _ _ _ _; refine goN ?_)
      | (show inBlock _ _ _ _; refine goB ?_)
      | (show retPost _ _ _ _ _; refine finG ?_)
      | (show retPostB _ _ _ _ _ _; first | refine finB rfl rfl ?_ ?_ | refine finBT rfl rfl rfl ?_ ?_))
    rfl
  · rw [if_neg c2]
    refine ret_of_awp tab Tryz.func49 rfl rfl (Nat.le_of_ble_eq_true rfl) (fun w0 F0 => ?_)
    repeat' (first
      | (show awpL _ _ _ _ _; first | refine goL ?_ | (refine gdLG ?_ ?_ <;> intro _ <;> try (exfalso; omega)))
      | (show awp _ _ _ _; first | refine goA ?_ | (refine cdG ?_ ?_ <;> intro _ <;> try (exfalso; omega)))
      | (show andThen _ _ _ _; refine goN ?_)
      | (show inBlock _ _ _ _; refine goB ?_)
      | (show retPost _ _ _ _ _; refine finG ?_)
      | (show retPostB _ _ _ _ _ _; first | refine finB rfl rfl ?_ ?_ | refine finBT rfl rfl rfl ?_ ?_))
    rfl
theorem ref40_mark (n : Int) (h0 : 0 ≤ n) (h1 : n < 1000000) : Ret Tryz.prog 91 [.int .i64 n] (· = .int .u8 (markZ n)) := by
  unfold markZ
  by_cases c1 : n = 0
  · rw [if_pos c1]
    refine ret_of_awp tab Tryz.func91 rfl rfl (Nat.le_of_ble_eq_true rfl) (fun w0 F0 => ?_)
    repeat' (first
      | (show awpL _ _ _ _ _; first | refine goL ?_ | (refine gdLG ?_ ?_ <;> intro _ <;> try (exfalso; omega)))
      | (show awp _ _ _ _; first | refine goA ?_ | (refine cdG ?_ ?_ <;> intro _ <;> try (exfalso; omega)))
      | (show andThen _ _ _ _; refine goN ?_)
      | (show inBlock _ _ _ _; refine goB ?_)
      | (show retPost _ _ _ _ _; refine finG ?_)
      | (show retPostB _ _ _ _ _ _; first | refine finB rfl rfl ?_ ?_ | refine finBT rfl rfl rfl ?_ ?_))
    rfl
  rw [if_neg c1]
  by_cases c2 : 9 < n
  · rw [if_pos c2]
    refine ret_of_awp tab Tryz.func91 rfl rfl (Nat.le_of_ble_eq_true rfl) (fun w0 F0 => ?_)
    repeat' (first
      | (show awpL _ _ _ _ _; first | refine goL ?_ | (refine gdLG ?_ ?_ <;> intro _ <;> try (exfalso; omega)))
      | (show awp _ _ _ _; first | refine goA ?_ | (refine cdG ?_ ?_ <;> intro _ <;> try (exfalso; omega)))
      | (show andThen _ _ _ _; refine goN ?_)
      | (show inBlock _ _ _ _; refine goB ?_)
      | (show retPost _ _ _ _ _; refine finG ?_)
      | (show retPostB _ _ _ _ _ _; first | refine finB rfl rfl ?_ ?_ | refine finBT rfl rfl rfl ?_ ?_))
    rfl
  · rw [if_neg c2]
    refine ret_of_awp tab Tryz.func91 rfl rfl (Nat.le_of_ble_eq_true rfl) (fun w0 F0 => ?_)
    repeat' (first
      | (show awpL _ _ _ _ _; first | refine goL ?_ | (refine gdLG ?_ ?_ <;> intro _ <;> try (exfalso; omega)))
      | (show awp _ _ _ _; first | refine goA ?_ | (refine cdG ?_ ?_ <;> intro _ <;> try (exfalso; omega)))
      | (show andThen _ _ _ _; refine goN ?_)
      | (show inBlock _ _ _ _; refine goB ?_)
      | (show retPost _ _ _ _ _; refine finG ?_)
      | (show retPostB _ _ _ _ _ _; first | refine finB rfl rfl ?_ ?_ | refine finBT rfl rfl rfl ?_ ?_))
    rfl
def mixL {α : Type} (a r : List α) (i : Nat) : List α := a.take i ++ r.drop i
theorem mixL_set {α : Type} {a r : List α} {i : Nat} (z : α) (h : a.length = r.length) (hi : i < a.length) : (mixL a r i).set i (a.getD i z) = mixL a r (i + 1) := by
  unfold mixL
  rw [List.set_append_right _ _ (by rw [List.length_take]; omega)]
  rw [show i - (a.take i).length = 0 by rw [List.length_take]; omega]
  rw [List.drop_eq_getElem_cons (show i < r.length by omega), List.set_cons_zero, List.take_add_one, List.append_assoc]
  congr 1
  simp [List.getD_eq_getElem?_getD, hi]
theorem mixL_len {α : Type} {a r : List α} {i : Nat} (h : a.length = r.length) (hi : i ≤ a.length) : (mixL a r i).length = r.length := by unfold mixL; simp; omega
theorem mixL_zero {α : Type} (a r : List α) : mixL a r 0 = r := by simp [mixL]
theorem mixL_all {α : Type} {a r : List α} (h : a.length = r.length) : mixL a r a.length = a := by unfold mixL; rw [List.take_of_length_le (Nat.le_refl _), List.drop_of_length_le (by omega), List.append_nil]
theorem plot_blanks (w : Nat) (h : w ≤ 1000) : RetB Tryz.prog 47 [.d (.int .i64 w)] (lookB []) (.own 6 0 w 5 1) (lookB [(6, .data 5 1 eB 0 (List.replicate w (32 : UInt8)))]) := by
  refine retB_of_awp tab [] Tryz.func47 rfl rfl rfl (Nat.le_of_ble_eq_true rfl) rfl trivial (fun w0 F0 A io0 => ?_)
  repeat' (first
    | (show awpL _ _ _ _ _; first | refine goL ?_ | refine stepMake (mm := true) (en := eB) (z := 0) tt rfl rfl rfl rfl rfl rfl rfl rfl rfl rfl rfl rfl leL sc sc ?_ | refine stepMake (mm := false) (en := eB) (z := 0) tt rfl rfl rfl rfl rfl rfl rfl rfl rfl rfl rfl rfl leL sc sc ?_ | (refine gdLG ?_ ?_ <;> intro _ <;> try (exfalso; omega)))
    | (show awp _ _ _ _; first | refine goA ?_ | (refine cdG ?_ ?_ <;> intro _ <;> try (exfalso; omega)))
    | (show andThen _ _ _ _; refine goN ?_)
    | (show inBlock _ _ _ _; refine goB ?_)
    | (show retPost _ _ _ _ _; refine finG ?_)
    | (show retPostB _ _ _ _ _ _; first | refine finB rfl rfl ?_ ?_ | refine finBT rfl rfl rfl ?_ ?_))
  refine awp_loop1 (fun (i : Nat) => ([(3, .own 6 0 w 5 1), (8, .d (.int .i64 w)), (9, .d (.int .i64 i))], [(6, .data 5 1 eB 0 (mixL (List.replicate w (32 : UInt8)) (List.replicate w (0 : UInt8)) i))])) (fun i => i ≤ w) (fun i => w - i) 0 (by omega) ⟨rfl, rfl, rfl, rfl⟩ ⟨by rw [mixL_zero]; rfl, trivial⟩ (fun i hi => ?_)
  have hml := mixL_len (a := List.replicate w (32 : UInt8)) (r := List.replicate w (0 : UInt8)) (i := i) (by simp) (by simp; omega)
  rw [List.length_replicate] at hml
  by_cases h3 : i < w
  · have hs := mixL_set (a := List.replicate w (32 : UInt8)) (r := List.replicate w (0 : UInt8)) (i := i) 0 (by simp) (by simp; omega)
    rw [show (List.replicate w (32 : UInt8)).getD i 0 = 32 by simp [List.getD_eq_getElem?_getD, h3]] at hs
    repeat' (first
      | (show awpL _ _ _ _ _; first | refine goL ?_ | (refine gdLG ?_ ?_ <;> intro _ <;> try (exfalso; omega)))
      | (show awp _ _ _ _; first | refine goA ?_ | (refine cdG ?_ ?_ <;> intro _ <;> try (exfalso; omega)))
      | (show andThen _ _ _ _; refine goN ?_)
      | (show inBlock _ _ _ _; refine goB ?_)
      | (show retPost _ _ _ _ _; refine finG ?_)
      | (show retPostB _ _ _ _ _ _; first | refine finB rfl rfl ?_ ?_ | refine finBT rfl rfl rfl ?_ ?_))
    exact ⟨i + 1, by omega, by omega, ⟨rfl, rfl, iv (by omega), rfl⟩, by rw [← hs]; rfl, trivial⟩
  · have : i = w := by omega
    subst this
    have hall := mixL_all (a := List.replicate i (32 : UInt8)) (r := List.replicate i (0 : UInt8)) (by simp)
    rw [List.length_replicate] at hall
    rw [hall]
    repeat' (first
      | (show awpL _ _ _ _ _; first | refine goL ?_ | (refine gdLG ?_ ?_ <;> intro _ <;> try (exfalso; omega)))
      | (show awp _ _ _ _; first | refine goA ?_ | (refine cdG ?_ ?_ <;> intro _ <;> try (exfalso; omega)))
      | (show andThen _ _ _ _; refine goN ?_)
      | (show inBlock _ _ _ _; refine goB ?_)
      | (show retPost _ _ _ _ _; refine finG ?_)
      | (show retPostB _ _ _ _ _ _; first | refine finB rfl rfl ?_ ?_ | refine finBT rfl rfl rfl ?_ ?_))
    all_goals first | exact leVT | exact ⟨rfl, trivial⟩
theorem getD_map_rv {vs : List R3} {i : Nat} (h : i < vs.length) : (vs.map rv).getD i 0 = rv (vs.getD i r0) := by
  simp [List.getD_eq_getElem?_getD, h]
theorem getD_mem_R {vs : List R3} {i : Nat} {p : R3 → Prop} (h : ∀ r ∈ vs, p r) (hi : i < vs.length) : p (vs.getD i r0) := by
  have e : vs.getD i r0 = vs[i] := by simp [List.getD_eq_getElem?_getD, hi]
  rw [e]; exact h _ (List.getElem_mem hi)
end Go.Proofs.YtoppaphffnojdaaGreat
