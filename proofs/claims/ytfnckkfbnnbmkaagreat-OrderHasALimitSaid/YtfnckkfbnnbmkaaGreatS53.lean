/-
  A statement of the seat: what its contract is, and the claim. Conditions: as each says.
-/
import Derived.Test.YtfnckkfbnnbmkaaGreatA09
set_option linter.unusedVariables false
set_option linter.unusedSimpArgs false
set_option maxHeartbeats 16000000
namespace Go.Proofs.YtfnckkfbnnbmkaaGreat
open Go.Vw
attribute [local irreducible] awp awpL awpR

theorem big_Median (l : List R3) (h1 : 1024 < l.length) (h2 : l.length < 1000000) : Ret Tryz.prog 14 [rsD l] (· = .tup [rD r0, rD r0, .int .i64 2]) := by
  have hc := order_check l 1 (by omega)
  rw [show chkO l.length 1 = 2 by unfold chkO; rw [if_neg (by omega), if_pos h1]] at hc
  refine ret_of_awp tab Tryz.func14 rfl rfl (Nat.le_of_ble_eq_true rfl) (fun w0 F0 => ?_)
  repeat' (first
    | (show awpL _ _ _ _ _; first | refine goL ?_ | refine cl 53 tt rfl rfl rfl (hr := hc) (k := ?_) | (refine gdLG ?_ ?_ <;> intro _ <;> try (exfalso; omega)))
    | (show awp _ _ _ _; first | refine goA ?_ | refine rgX 5 3 [] ?_ | (refine cdG ?_ ?_ <;> intro _ <;> try (exfalso; omega)))
    | (show andThen _ _ _ _; refine goN ?_)
    | (show inBlock _ _ _ _; refine goB ?_)
    | (show awpR _ _ _ _ _ _ _; first | refine goR ?_ | refine clR 53 tt rfl rfl rfl (hr := hc) (k := ?_) | (refine gdRG ?_ ?_ <;> intro _ <;> try (exfalso; omega)))
    | (show retPost _ _ _ _ _; refine finTG ?_))
  exact leT
theorem big_Middle (l : List R3) (h1 : 1024 < l.length) (h2 : l.length < 1000000) : Ret Tryz.prog 27 [rsD l] (· = .tup [rD r0, .int .i64 2]) := by
  have hc := order_check l 1 (by omega)
  rw [show chkO l.length 1 = 2 by unfold chkO; rw [if_neg (by omega), if_pos h1]] at hc
  refine ret_of_awp tab Tryz.func27 rfl rfl (Nat.le_of_ble_eq_true rfl) (fun w0 F0 => ?_)
  repeat' (first
    | (show awpL _ _ _ _ _; first | refine goL ?_ | refine cl 53 tt rfl rfl rfl (hr := hc) (k := ?_) | (refine gdLG ?_ ?_ <;> intro _ <;> try (exfalso; omega)))
    | (show awp _ _ _ _; first | refine goA ?_ | (refine cdG ?_ ?_ <;> intro _ <;> try (exfalso; omega)))
    | (show andThen _ _ _ _; refine goN ?_)
    | (show inBlock _ _ _ _; refine goB ?_)
    | (show retPost _ _ _ _ _; refine finTG ?_))
  exact leT
theorem big_Quantile (l : List R3) (p : R3) (h1 : 1024 < l.length) (h2 : l.length < 1000000) : Ret Tryz.prog 29 [rsD l, rD p] (· = .tup [rD r0, rD r0, .int .i64 2]) := by
  have hc := order_check l 1 (by omega)
  rw [show chkO l.length 1 = 2 by unfold chkO; rw [if_neg (by omega), if_pos h1]] at hc
  refine ret_of_awp tab Tryz.func29 rfl rfl (Nat.le_of_ble_eq_true rfl) (fun w0 F0 => ?_)
  repeat' (first
    | (show awpL _ _ _ _ _; first | refine goL ?_ | refine cl 53 tt rfl rfl rfl (hr := hc) (k := ?_) | (refine gdLG ?_ ?_ <;> intro _ <;> try (exfalso; omega)))
    | (show awp _ _ _ _; first | refine goA ?_ | refine rg 4 6 ?_ | refine rgK 7 5 [10] ?_ | refine rg 10 6 ?_ | refine rg 12 16 ?_ | (refine cdG ?_ ?_ <;> intro _ <;> try (exfalso; omega)))
    | (show andThen _ _ _ _; refine goN ?_)
    | (show inBlock _ _ _ _; refine goB ?_)
    | (show awpR _ _ _ _ _ _ _; first | refine goR ?_ | refine clR 53 tt rfl rfl rfl (hr := hc) (k := ?_) | (refine gdRG ?_ ?_ <;> intro _ <;> try (exfalso; omega)))
    | (show retPost _ _ _ _ _; refine finTG ?_))
  exact leT
theorem big_Deviation (l : List R3) (h1 : 1024 < l.length) (h2 : l.length < 1000000) : Ret Tryz.prog 33 [rsD l] (· = .tup [rD r0, .int .i64 2]) := by
  have hc := order_check l 1 (by omega)
  rw [show chkO l.length 1 = 2 by unfold chkO; rw [if_neg (by omega), if_pos h1]] at hc
  refine ret_of_awp tab Tryz.func33 rfl rfl (Nat.le_of_ble_eq_true rfl) (fun w0 F0 => ?_)
  repeat' (first
    | (show awpL _ _ _ _ _; first | refine goL ?_ | refine cl 53 tt rfl rfl rfl (hr := hc) (k := ?_) | (refine gdLG ?_ ?_ <;> intro _ <;> try (exfalso; omega)))
    | (show awp _ _ _ _; first | refine goA ?_ | (refine cdG ?_ ?_ <;> intro _ <;> try (exfalso; omega)))
    | (show andThen _ _ _ _; refine goN ?_)
    | (show inBlock _ _ _ _; refine goB ?_)
    | (show retPost _ _ _ _ _; refine finTG ?_))
  exact leT
theorem big_HodgesLehmann (l : List R3) (h1 : 1024 < l.length) (h2 : l.length < 1000000) : Ret Tryz.prog 35 [rsD l] (· = .tup [rD r0, rD r0, .int .i64 2]) := by
  have hc := order_check l 1 (by omega)
  rw [show chkO l.length 1 = 2 by unfold chkO; rw [if_neg (by omega), if_pos h1]] at hc
  refine ret_of_awp tab Tryz.func35 rfl rfl (Nat.le_of_ble_eq_true rfl) (fun w0 F0 => ?_)
  repeat' (first
    | (show awpL _ _ _ _ _; first | refine goL ?_ | refine cl 53 tt rfl rfl rfl (hr := hc) (k := ?_) | (refine gdLG ?_ ?_ <;> intro _ <;> try (exfalso; omega)))
    | (show awp _ _ _ _; first | refine goA ?_ | refine rgX 15 3 [] ?_ | (refine cdG ?_ ?_ <;> intro _ <;> try (exfalso; omega)))
    | (show andThen _ _ _ _; refine goN ?_)
    | (show inBlock _ _ _ _; refine goB ?_)
    | (show awpR _ _ _ _ _ _ _; first | refine goR ?_ | refine clR 53 tt rfl rfl rfl (hr := hc) (k := ?_) | (refine gdRG ?_ ?_ <;> intro _ <;> try (exfalso; omega)))
    | (show retPost _ _ _ _ _; refine finTG ?_))
  exact leT
theorem big_Qn (l : List R3) (h1 : 1024 < l.length) (h2 : l.length < 1000000) : Ret Tryz.prog 37 [rsD l] (· = .tup [rD r0, .int .i64 2]) := by
  have hc := order_check l 2 (by omega)
  rw [show chkO l.length 2 = 2 by unfold chkO; rw [if_neg (by omega), if_pos h1]] at hc
  refine ret_of_awp tab Tryz.func37 rfl rfl (Nat.le_of_ble_eq_true rfl) (fun w0 F0 => ?_)
  repeat' (first
    | (show awpL _ _ _ _ _; first | refine goL ?_ | refine cl 53 tt rfl rfl rfl (hr := hc) (k := ?_) | (refine gdLG ?_ ?_ <;> intro _ <;> try (exfalso; omega)))
    | (show awp _ _ _ _; first | refine goA ?_ | refine rg 8 6 ?_ | (refine cdG ?_ ?_ <;> intro _ <;> try (exfalso; omega)))
    | (show andThen _ _ _ _; refine goN ?_)
    | (show inBlock _ _ _ _; refine goB ?_)
    | (show awpR _ _ _ _ _ _ _; first | refine goR ?_ | refine clR 53 tt rfl rfl rfl (hr := hc) (k := ?_) | (refine gdRG ?_ ?_ <;> intro _ <;> try (exfalso; omega)))
    | (show retPost _ _ _ _ _; refine finTG ?_))
  exact leT
theorem big_cut (l : List R3) (g : Int) (h1 : 1024 < l.length) (h2 : l.length < 1000000) : Ret Tryz.prog 66 [rsD l, .int .i64 g] (· = .tup [qsD [], .int .i64 2]) := by
  have hc := order_check l 1 (by omega)
  rw [show chkO l.length 1 = 2 by unfold chkO; rw [if_neg (by omega), if_pos h1]] at hc
  refine ret_of_awp tab Tryz.func66 rfl rfl (Nat.le_of_ble_eq_true rfl) (fun w0 F0 => ?_)
  repeat' (first
    | (show awpL _ _ _ _ _; first | refine goL ?_ | refine cl 53 tt rfl rfl rfl (hr := hc) (k := ?_) | (refine gdLG ?_ ?_ <;> intro _ <;> try (exfalso; omega)))
    | (show awp _ _ _ _; first | refine goA ?_ | (refine cdG ?_ ?_ <;> intro _ <;> try (exfalso; omega)))
    | (show andThen _ _ _ _; refine goN ?_)
    | (show inBlock _ _ _ _; refine goB ?_)
    | (show retPost _ _ _ _ _; refine finTG ?_))
  exact leT
theorem big_Trimmed (l : List R3) (g : Int) (h1 : 1024 < l.length) (h2 : l.length < 1000000) : Ret Tryz.prog 28 [rsD l, .int .i64 g] (· = .tup [rD r0, .int .i64 2]) := by
  have hc := big_cut l g h1 h2
  refine ret_of_awp tab Tryz.func28 rfl rfl (Nat.le_of_ble_eq_true rfl) (fun w0 F0 => ?_)
  repeat' (first
    | (show awpL _ _ _ _ _; first | refine goL ?_ | refine cl 66 tt rfl rfl rfl (hr := hc) (k := ?_) | (refine gdLG ?_ ?_ <;> intro _ <;> try (exfalso; omega)))
    | (show awp _ _ _ _; first | refine goA ?_ | (refine cdG ?_ ?_ <;> intro _ <;> try (exfalso; omega)))
    | (show andThen _ _ _ _; refine goN ?_)
    | (show inBlock _ _ _ _; refine goB ?_)
    | (show retPost _ _ _ _ _; refine finTG ?_))
  exact leT
theorem big_Winsorised (l : List R3) (g : Int) (h1 : 1024 < l.length) (h2 : l.length < 1000000) : Ret Tryz.prog 40 [rsD l, .int .i64 g] (· = .tup [rD r0, .int .i64 2]) := by
  have hc := big_cut l g h1 h2
  refine ret_of_awp tab Tryz.func40 rfl rfl (Nat.le_of_ble_eq_true rfl) (fun w0 F0 => ?_)
  repeat' (first
    | (show awpL _ _ _ _ _; first | refine goL ?_ | refine cl 66 tt rfl rfl rfl (hr := hc) (k := ?_) | (refine gdLG ?_ ?_ <;> intro _ <;> try (exfalso; omega)))
    | (show awp _ _ _ _; first | refine goA ?_ | refine rg 7 22 ?_ | (refine cdG ?_ ?_ <;> intro _ <;> try (exfalso; omega)))
    | (show andThen _ _ _ _; refine goN ?_)
    | (show inBlock _ _ _ _; refine goB ?_)
    | (show awpR _ _ _ _ _ _ _; first | refine goR ?_ | refine clR 66 tt rfl rfl rfl (hr := hc) (k := ?_) | (refine gdRG ?_ ?_ <;> intro _ <;> try (exfalso; omega)))
    | (show retPost _ _ _ _ _; refine finTG ?_))
  exact leT
theorem limit_true (m : Int) (h0 : 0 ≤ m) (h1 : m < 256) : Ret Tryz.prog 8 [.int .u8 m] (· = .bool true) := by
  have aw := law16_awake
  have hl : (List.replicate (1025 + m % 3).toNat r0).length = (1025 + m % 3).toNat := List.length_replicate
  have c1 := big_Median (List.replicate (1025 + m % 3).toNat r0) (by omega) (by omega)
  have c2 := big_Middle (List.replicate (1025 + m % 3).toNat r0) (by omega) (by omega)
  have c3 := big_Quantile (List.replicate (1025 + m % 3).toNat r0) r0 (by omega) (by omega)
  have c4 := big_Deviation (List.replicate (1025 + m % 3).toNat r0) (by omega) (by omega)
  have c5 := big_HodgesLehmann (List.replicate (1025 + m % 3).toNat r0) (by omega) (by omega)
  have c6 := big_Qn (List.replicate (1025 + m % 3).toNat r0) (by omega) (by omega)
  have c7 := big_Trimmed (List.replicate (1025 + m % 3).toNat r0) 0 (by omega) (by omega)
  have c8 := big_Winsorised (List.replicate (1025 + m % 3).toNat r0) 0 (by omega) (by omega)
  refine ret_of_awp tab Tryz.func8 rfl rfl (Nat.le_of_ble_eq_true rfl) (fun w0 F0 => ?_)
  repeat' (first
    | (show awpL _ _ _ _ _; first | refine goL ?_ | refine stepMake (mm := true) (en := rC) (z := r0) tt rfl rfl rfl rfl rfl rfl rfl rfl rfl rfl rfl rfl leL sc sc ?_ | refine stepMake (mm := false) (en := rC) (z := r0) tt rfl rfl rfl rfl rfl rfl rfl rfl rfl rfl rfl rfl leL sc sc ?_ | refine cl 14 tt rfl rfl rfl (hr := c1) (k := ?_) | refine cl 27 tt rfl rfl rfl (hr := c2) (k := ?_) | refine cl 29 tt rfl rfl rfl (hr := c3) (k := ?_) | refine cl 33 tt rfl rfl rfl (hr := c4) (k := ?_) | refine cl 35 tt rfl rfl rfl (hr := c5) (k := ?_) | refine cl 37 tt rfl rfl rfl (hr := c6) (k := ?_) | refine cl 28 tt rfl rfl rfl (hr := c7) (k := ?_) | refine cl 40 tt rfl rfl rfl (hr := c8) (k := ?_) | refine cl 13 tt rfl rfl rfl (hr := aw) (k := ?_) | (refine gdLG ?_ ?_ <;> intro _ <;> try (exfalso; omega)))
    | (show awp _ _ _ _; first | refine goA ?_ | (refine cdG ?_ ?_ <;> intro _ <;> try (exfalso; omega)))
    | (show andThen _ _ _ _; refine goN ?_)
    | (show inBlock _ _ _ _; refine goB ?_)
    | (show retPost _ _ _ _ _; refine finG ?_))
  all_goals rfl
end Go.Proofs.YtfnckkfbnnbmkaaGreat
