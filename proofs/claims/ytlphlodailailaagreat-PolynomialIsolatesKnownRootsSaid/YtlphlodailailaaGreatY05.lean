/-
  A statement of the seat: what its contract is, and the claim. Conditions: as each says.
-/
import Derived.Test.YtlphlodailailaaGreatY01
import Derived.Test.YtlphlodailailaaGreatA07
import Derived.Test.YtlphlodailailaaGreatA10
set_option linter.unusedVariables false
set_option linter.unusedSimpArgs false
set_option maxHeartbeats 8000000
namespace Go.Proofs.YtlphlodailailaaGreat
open Go.Vw
attribute [local irreducible] awp awpL awpR

theorem polynomial_Trim (l : List R3) (hn : l.length ≤ 1000) (hl : ∀ r ∈ l, RatOk r 10000000) : Ret Tryz.prog 60 [rsD l] (· = qsD (trimP (l.map rv))) :=
  (polynomial_TrimB l hn hl).toRet (ds := [rsD l]) true rfl rfl
theorem polynomial_Degree (l : List R3) (hn : l.length ≤ 1000) (hl : ∀ r ∈ l, RatOk r 10000000) : Ret Tryz.prog 43 [rsD l] (· = .int .i64 (((trimP (l.map rv)).length : Int) - 1)) := by
  have ht := polynomial_Trim l hn hl
  have hk := Nat.le_trans (trim_len (l.map rv)) (by rw [List.length_map]; exact hn)
  generalize trimP (l.map rv) = p at *
  clear hl
  refine ret_of_awp tab Tryz.func43 rfl rfl (Nat.le_of_ble_eq_true rfl) (fun w0 F0 => ?_)
  repeat' (first
    | (show awpL _ _ _ _ _; first | refine goL ?_ | refine cl 60 tt rfl rfl rfl (hr := ht) (k := ?_) | (refine gdLG ?_ ?_ <;> intro _ <;> try (exfalso; omega)))
    | (show awp _ _ _ _; first | refine goA ?_ | (refine cdG ?_ ?_ <;> intro _ <;> try (exfalso; omega)))
    | (show andThen _ _ _ _; refine goN ?_)
    | (show inBlock _ _ _ _; refine goB ?_)
    | (show retPost _ _ _ _ _; refine finG ?_))
  rfl
theorem combine_at (l : List R3) (i : Nat) (hl : l.length ≤ 1000) (hi : i ≤ 2000) : Ret Tryz.prog 127 [rsD l, .int .i64 i] (· = rD (l.getD i r0)) := by
  by_cases h : i < l.length
  · refine ret_of_awp tab Tryz.func127 rfl rfl (Nat.le_of_ble_eq_true rfl) (fun w0 F0 => ?_)
    repeat' (first
      | (show awpL _ _ _ _ _; first | refine goL ?_ | (refine gdLG ?_ ?_ <;> intro _ <;> try (exfalso; omega)))
      | (show awp _ _ _ _; first | refine goA ?_ | (refine cdG ?_ ?_ <;> intro _ <;> try (exfalso; omega)))
      | (show andThen _ _ _ _; refine goN ?_)
      | (show inBlock _ _ _ _; refine goB ?_)
      | (show retPost _ _ _ _ _; refine finG ?_))
    rfl
  · rw [show l.getD i r0 = r0 by rw [List.getD_eq_getElem?_getD, List.getElem?_eq_none (by omega)]; rfl]
    refine ret_of_awp tab Tryz.func127 rfl rfl (Nat.le_of_ble_eq_true rfl) (fun w0 F0 => ?_)
    repeat' (first
      | (show awpL _ _ _ _ _; first | refine goL ?_ | (refine gdLG ?_ ?_ <;> intro _ <;> try (exfalso; omega)))
      | (show awp _ _ _ _; first | refine goA ?_ | (refine cdG ?_ ?_ <;> intro _ <;> try (exfalso; omega)))
      | (show andThen _ _ _ _; refine goN ?_)
      | (show inBlock _ _ _ _; refine goB ?_)
      | (show retPost _ _ _ _ _; first | refine finF true rfl rfl sc ?_ | refine finF false rfl rfl sc ?_ | refine finC false rfl rfl sc sc ?_ | refine finN rfl rfl sc ?_ | refine finL true rfl rfl sc rfl (LeR.cons rfl leL LeR.nil) ?_ | refine finA true rfl rfl sc ?_ | refine finA false rfl rfl sc ?_ | refine finE true rfl rfl sc ?_ | refine finE false rfl rfl sc ?_))
    exact leL
def outL (g : Nat → Rat) (m i : Nat) : List R3 := (List.range i).map (fun j => rq (g j)) ++ List.replicate (m - i) r0
theorem outL_len {g : Nat → Rat} {m i : Nat} (h : i ≤ m) : (outL g m i).length = m := by unfold outL; simp; omega
theorem outL_set {g : Nat → Rat} {m i : Nat} (h : i < m) : (outL g m i).set i (rq (g i)) = outL g m (i + 1) := by
  unfold outL
  rw [List.set_append_right _ _ (by simp), show m - i = (m - (i + 1)) + 1 by omega, List.replicate_succ, List.length_map, List.length_range, Nat.sub_self, List.set_cons_zero, List.range_succ, List.map_append, List.append_assoc]
  rfl
theorem outL_rv {g : Nat → Rat} {m : Nat} : (outL g m m).map rv = (List.range m).map g := by
  unfold outL
  rw [Nat.sub_self, List.replicate_zero, List.append_nil, List.map_map]
  exact List.map_congr_left fun j _ => rv_rq _
theorem outL_ok {g : Nat → Rat} {m k : Nat} (h : ∀ i, i < m → okQ k (g i)) : ∀ r ∈ outL g m m, RatOk r k := by
  unfold outL
  rw [Nat.sub_self, List.replicate_zero, List.append_nil]
  intro r hr
  obtain ⟨j, hj, rfl⟩ := List.mem_map.1 hr
  exact ok_rq (h j (List.mem_range.1 hj))
theorem polynomial_combine (fid : FuncId) (g : Nat → Rat) (p q : List R3) (hp : p.length ≤ 500) (hq : q.length ≤ 500) (hf : ∀ i, i < max p.length q.length → Ret Tryz.prog fid [rD (p.getD i r0), rD (q.getD i r0)] (· = qD (g i))) (ho : ∀ i, i < max p.length q.length → okQ 10000000 (g i)) : Ret Tryz.prog 84 [rsD p, rsD q, .fn fid []] (· = qsD (trimP ((List.range (max p.length q.length)).map g))) := by
  obtain ⟨m, hm⟩ : ∃ m, max p.length q.length = m := ⟨_, rfl⟩
  rw [hm] at hf ho ⊢
  have hm2 : m ≤ 500 := by omega
  have hmz : (max (p.length : Int) (q.length : Int)).toNat = m := by omega
  refine ret_of_awp tab Tryz.func84 rfl rfl (Nat.le_of_ble_eq_true rfl) (fun w0 F0 => ?_)
  repeat' (first
    | (show awpL _ _ _ _ _; first | refine goL ?_ | refine stepMake (mm := true) (en := rC) (z := r0) tt rfl rfl rfl rfl rfl rfl rfl rfl rfl rfl rfl rfl leL sc sc ?_ | refine stepMake (mm := false) (en := rC) (z := r0) tt rfl rfl rfl rfl rfl rfl rfl rfl rfl rfl rfl rfl leL sc sc ?_ | (refine gdLG ?_ ?_ <;> intro _ <;> try (exfalso; omega)))
    | (show awp _ _ _ _; first | refine goA ?_ | (refine cdG ?_ ?_ <;> intro _ <;> try (exfalso; omega)))
    | (show andThen _ _ _ _; refine goN ?_)
    | (show inBlock _ _ _ _; refine goB ?_)
    | (show retPost _ _ _ _ _; refine finG ?_))
  refine awp_loop1 (fun (i : Nat) => ([(0, .d (rsD p)), (1, .d (rsD q)), (2, .d (.fn fid [])), (7, .own 15 0 m 29 3), (8, .d (.fn 127 [])), (17, .d (.int .i64 m)), (18, .d (.int .i64 i))], [(15, .data 29 3 rC r0 (outL g m i))])) (fun i => i ≤ m) (fun i => m - i) 0 (by omega) ⟨rfl, rfl, rfl, ownEq hmz, rfl, iv (by omega), rfl, rfl⟩ ⟨blkEq (by rw [hmz]; unfold outL; simp), trivial⟩ (fun i hi => ?_)
  have hol := outL_len (g := g) hi
  by_cases h3 : i < m
  · have c1 := combine_at p i (by omega) (by omega)
    have c2 := combine_at q i (by omega) (by omega)
    have c3 := hf i h3
    have es := outL_set (g := g) h3
    generalize outL g m i = L at *
    generalize g i = y at *
    clear hf ho
    repeat' (first
      | (show awpL _ _ _ _ _; first | refine goL ?_ | refine cl 127 tt rfl rfl rfl (hr := c1) (k := ?_) | refine cl 127 tt rfl rfl rfl (hr := c2) (k := ?_) | refine cl fid (Nat.beq_refl fid) rfl rfl rfl (hr := c3) (k := ?_) | (refine gdLG ?_ ?_ <;> intro _ <;> try (exfalso; omega)))
      | (show awp _ _ _ _; first | refine goA ?_ | (refine cdG ?_ ?_ <;> intro _ <;> try (exfalso; omega)))
      | (show andThen _ _ _ _; refine goN ?_)
      | (show inBlock _ _ _ _; refine goB ?_)
      | (show retPost _ _ _ _ _; refine finG ?_))
    exact ⟨i + 1, by omega, by omega, ⟨rfl, rfl, rfl, rfl, rfl, rfl, rfl, rfl⟩, blkEq es, trivial⟩
  · have e : i = m := by omega
    subst e
    have ht := polynomial_Trim (outL g i i) (by omega) (outL_ok ho)
    rw [outL_rv] at ht
    generalize outL g i i = L at *
    generalize (List.range i).map g = R at *
    clear hf ho
    repeat' (first
      | (show awpL _ _ _ _ _; first | refine goL ?_ | refine cl 60 tt rfl rfl rfl (hr := ht) (k := ?_) | (refine gdLG ?_ ?_ <;> intro _ <;> try (exfalso; omega)))
      | (show awp _ _ _ _; first | refine goA ?_ | (refine cdG ?_ ?_ <;> intro _ <;> try (exfalso; omega)))
      | (show andThen _ _ _ _; refine goN ?_)
      | (show inBlock _ _ _ _; refine goB ?_)
      | (show retPost _ _ _ _ _; refine finG ?_))
    rfl
end Go.Proofs.YtlphlodailailaaGreat
