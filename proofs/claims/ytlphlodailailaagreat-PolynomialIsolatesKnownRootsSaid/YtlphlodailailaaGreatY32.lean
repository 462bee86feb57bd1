/-
  A statement of the seat: what its contract is, and the claim. Conditions: as each says.
-/
import Derived.Test.YtlphlodailailaaGreatY31
import Derived.Test.YtlphlodailailaaGreatA10
set_option linter.unusedVariables false
set_option linter.unusedSimpArgs false
set_option maxHeartbeats 8000000
namespace Go.Proofs.YtlphlodailailaaGreat
open Go.Vw
attribute [local irreducible] awp awpL awpR awpAC

@[reducible] def qiC (i : I2) : List D := iC (rq i.1) (rq i.2)
@[reducible] def isD (l : List I2) : D := .sl 6 qiC (0, 0) l
@[reducible] def iO (k n : Nat) : V := .own k 0 n 55 6
@[reducible] def iB (l : List I2) : Blk := .data 55 6 qiC (0, 0) l
structure Deep (C : Rat → Rat → Int) (N : Nat) : Prop extends Cnt C where
  few : ∀ a b, C a b ≤ 100
  deep : ∀ a b, -32 ≤ a → b ≤ 32 → a < b → b - a ≤ hw 1 N → C a b ≤ 1
theorem isolate_0 {p : List Rat} (X : I2) (ct : Ret Tryz.prog 69 [qssD (ctr (trimP p)), qD X.1, qD X.2] (· = .int .i64 0)) : RetB Tryz.prog 96 [.d (qssD (ctr (trimP p))), .d (iQ X)] (lookB []) (iO 500 0) (lookB [(500, iB [])]) := by
  generalize ctr (trimP p) = F at *
  refine retB_of_awp tab [] Tryz.func96 rfl rfl rfl (Nat.le_of_ble_eq_true rfl) rfl trivial (fun w0 F0 A io0 => ?_)
  repeat' (first
    | (show awpL _ _ _ _ _; first | refine goL ?_ | refine cl 69 tt rfl rfl rfl (hr := ct) (k := ?_) | (refine gdLG ?_ ?_ <;> intro _ <;> try (exfalso; omega)))
    | (show awp _ _ _ _; first | refine stopA 3 tt ?_)
    | (show awp _ _ _ _; first | refine goA ?_ | refine rg 7 11 ?_ | (refine cdG ?_ ?_ <;> intro _ <;> try (exfalso; omega)))
    | (show andThen _ _ _ _; refine goN ?_)
    | (show inBlock _ _ _ _; refine goB ?_)
    | (show awpR _ _ _ _ _ _ _; first | refine goR ?_ | refine clR 69 tt rfl rfl rfl (hr := ct) (k := ?_) | (refine gdRG ?_ ?_ <;> intro _ <;> try (exfalso; omega)))
    | (show retPost _ _ _ _ _; refine finG ?_)
    | (show retPostB _ _ _ _ _ _; first | refine finB rfl rfl ?_ ?_ | refine finBT rfl rfl rfl ?_ ?_))
  refine stopOut ?_
  refine awp_seq ?_
  refine awp_region ?_
  refine goL ?_
  refine goL ?_
  refine goN ?_
  refine awp_adopt 4 500 55 6 qiC (0, 0) rfl ?_
  repeat' (first
    | (show awpL _ _ _ _ _; first | refine goL ?_ | (refine gdLG ?_ ?_ <;> intro _ <;> try (exfalso; omega)))
    | (show awp _ _ _ _; first | refine goA ?_ | refine rg 7 11 ?_ | (refine cdG ?_ ?_ <;> intro _ <;> try (exfalso; omega)))
    | (show andThen _ _ _ _; refine goN ?_)
    | (show inBlock _ _ _ _; refine goB ?_)
    | (show awpR _ _ _ _ _ _ _; first | refine goR ?_ | (refine gdRG ?_ ?_ <;> intro _ <;> try (exfalso; omega)))
    | (show retPost _ _ _ _ _; refine finG ?_)
    | (show retPostB _ _ _ _ _ _; first | refine finB rfl rfl ?_ ?_ | refine finBT rfl rfl rfl ?_ ?_))
  all_goals first | exact leVT | exact ⟨rfl, trivial⟩
theorem isolate_1 {p : List Rat} (X : I2) (hX : X.1 ≤ X.2) (oX : okI 150000 X) (ct : Ret Tryz.prog 69 [qssD (ctr (trimP p)), qD X.1, qD X.2] (· = .int .i64 1)) : RetB Tryz.prog 96 [.d (qssD (ctr (trimP p))), .d (iQ X)] (lookB []) (iO 19 1) (lookB [(19, iB [X])]) := by
  have hu := interval_HullS X oX hX
  generalize ctr (trimP p) = F at *
  clear oX hX
  refine retB_of_awp tab [] Tryz.func96 rfl rfl rfl (Nat.le_of_ble_eq_true rfl) rfl trivial (fun w0 F0 A io0 => ?_)
  repeat' (first
    | (show awpL _ _ _ _ _; first | refine stepLitO (d := 19) (en := qiC) (z := (0, 0)) rfl rfl rfl rfl rfl (LeR.cons rfl leL LeR.nil) ?_ | refine goL ?_ | refine cl 69 tt rfl rfl rfl (hr := ct) (k := ?_) | refine cl 98 tt rfl rfl rfl (hr := hu) (k := ?_) | (refine gdLG ?_ ?_ <;> intro _ <;> try (exfalso; omega)))
    | (show awp _ _ _ _; first | refine goA ?_ | refine rg 7 11 ?_ | (refine cdG ?_ ?_ <;> intro _ <;> try (exfalso; omega)))
    | (show andThen _ _ _ _; refine goN ?_)
    | (show inBlock _ _ _ _; refine goB ?_)
    | (show awpR _ _ _ _ _ _ _; first | refine goR ?_ | refine clR 69 tt rfl rfl rfl (hr := ct) (k := ?_) | refine clR 98 tt rfl rfl rfl (hr := hu) (k := ?_) | (refine gdRG ?_ ?_ <;> intro _ <;> try (exfalso; omega)))
    | (show retPost _ _ _ _ _; refine finG ?_)
    | (show retPostB _ _ _ _ _ _; first | refine finB rfl rfl ?_ ?_ | refine finBT rfl rfl rfl ?_ ?_))
  all_goals first | exact leVT | exact ⟨rfl, trivial⟩
theorem isolate_2 {p : List Rat} (X : I2) (hX : X.1 ≤ X.2) (oX : okI 150000 X) (c : Int) (c0 : c ≠ 0) (c1 : c ≠ 1) (ct : Ret Tryz.prog 69 [qssD (ctr (trimP p)), qD X.1, qD X.2] (· = .int .i64 c)) (l m : List I2) (hl : l.length ≤ 1000) (hm : m.length ≤ 1000) (h1 : RetB Tryz.prog 96 [.d (qssD (ctr (trimP p))), .d (iQ (X.1, mid2 X))] (lookB []) (iO 27 l.length) (lookB [(27, iB l)])) (h2 : RetB Tryz.prog 96 [.d (qssD (ctr (trimP p))), .d (iQ (mid2 X, X.2))] (lookB []) (iO 33 m.length) (lookB [(33, iB m)])) : RetB Tryz.prog 96 [.d (qssD (ctr (trimP p))), .d (iQ X)] (lookB []) (iO 27 (l ++ m).length) (lookB [(27, iB (l ++ m))]) := by
  have md := interval_MidI X oX hX
  generalize ctr (trimP p) = F at *
  generalize mid2 X = z at *
  have r2 : RetB Tryz.prog 96 [.d (qssD F), .d (iQ (z, X.2))] (lookB []) (iO 33 m.length) (lookB [(33, iB m)]) := h2
  clear oX hX
  refine retB_of_awp tab [] Tryz.func96 rfl rfl rfl (Nat.le_of_ble_eq_true rfl) rfl trivial (fun w0 F0 A io0 => ?_)
  repeat' (first
    | (show awpL _ _ _ _ _; first | refine goL ?_ | refine cl 69 tt rfl rfl rfl (hr := ct) (k := ?_) | refine cl 102 tt rfl rfl rfl (hr := md) (k := ?_) | (refine gdLG ?_ ?_ <;> intro _ <;> try (exfalso; omega)))
    | (show awp _ _ _ _; first | refine stopA 7 tt ?_)
    | (show awp _ _ _ _; first | refine goA ?_ | refine rg 7 11 ?_ | (refine cdG ?_ ?_ <;> intro _ <;> try (exfalso; omega)))
    | (show andThen _ _ _ _; refine goN ?_)
    | (show inBlock _ _ _ _; refine goB ?_)
    | (show awpR _ _ _ _ _ _ _; first | refine goR ?_ | refine clR 69 tt rfl rfl rfl (hr := ct) (k := ?_) | refine clR 102 tt rfl rfl rfl (hr := md) (k := ?_) | (refine gdRG ?_ ?_ <;> intro _ <;> try (exfalso; omega)))
    | (show retPost _ _ _ _ _; refine finG ?_)
    | (show retPostB _ _ _ _ _ _; first | refine finB rfl rfl ?_ ?_ | refine finBT rfl rfl rfl ?_ ?_))
  refine stopOut ?_
  refine awp_seq ?_
  refine awp_frz 3 rfl ?_
  refine awp_frz 5 rfl ?_
  refine awp_regAC 7 11 [27] ?_ mixed (by kernel_rfl) rfl rfl
  refine goAC ?_
  refine goAC ?_
  refine goAC ?_
  refine goAC ?_
  refine goAC ?_
  refine clAC (ds' := [qssD F, iQ (X.1, z)]) 96 h1 rfl rfl rfl rfl rfl rfl rfl rfl leVT ?_
  refine goAC ?_
  refine goAC ?_
  refine goAC ?_
  refine goAC ?_
  refine goAC ?_
  refine goAC ?_
  repeat' (first
    | (show awpL _ _ _ _ _; first | refine goL ?_ | refine clB 96 [33] (r2) tt rfl rfl rfl rfl rfl rfl leVT allB ?_ | (refine gdLG ?_ ?_ <;> intro _ <;> try (exfalso; omega)))
    | (show awp _ _ _ _; first | refine goA ?_ | refine rg 7 11 ?_ | (refine cdG ?_ ?_ <;> intro _ <;> try (exfalso; omega)))
    | (show andThen _ _ _ _; refine goN ?_)
    | (show inBlock _ _ _ _; refine goB ?_)
    | (show awpR _ _ _ _ _ _ _; first | refine goR ?_ | (refine gdRG ?_ ?_ <;> intro _ <;> try (exfalso; omega)))
    | (show retPost _ _ _ _ _; refine finG ?_)
    | (show retPostB _ _ _ _ _ _; first | refine finB rfl rfl ?_ ?_ | refine finBT rfl rfl rfl ?_ ?_))
  all_goals first | exact leVT | exact ⟨rfl, trivial⟩ | exact blkEq rfl
theorem isolate_B {p : List Rat} (hp : PolOk p) (p0 : trimP p ≠ []) {N : Nat} (hN : N ≤ 3000000) (hC : Deep (cfn p) N) {D M : Nat} (D0 : D ≠ 0) (hD : D < 4294967296 * 4294967296) (hM : M < 4294967296 * 4294967296 * 4294967296) : ∀ (n j : Nat) (X : I2), j + n = 6 + N → Dy D M j X.1 → Dy D M j X.2 → -32 ≤ X.1 → X.2 ≤ 32 → X.1 ≤ X.2 → X.2 - X.1 ≤ hw 64 j → ∃ l : List I2, Iso (cfn p) X l ∧ (∀ y ∈ l, okI 150000 y) ∧ RetB Tryz.prog 96 [.d (qssD (ctr (trimP p))), .d (iQ X)] (lookB []) (iO 500 l.length) (lookB [(500, iB l)]) := by
  intro n
  induction n with
  | zero =>
    intro j X hj d1 d2 a1 a2 hX hw1
    have oX : okI 150000 X := ⟨(d1.ok D0 hD hM).mono (by omega), (d2.ok D0 hD hM).mono (by omega)⟩
    have ct := countV hp p0 X.1 X.2 oX.1 oX.2
    by_cases c0 : cfn p X.1 X.2 = 0
    · rw [show cntF (ctr (trimP p)) X.1 X.2 = 0 from c0] at ct
      exact ⟨[], .zero c0, fun y hy => by simp at hy, isolate_0 X ct⟩
    · have hlt : X.1 < X.2 := Classical.byContradiction fun e => c0 (hC.none _ _ e)
      have e64 : hw 64 6 = 1 := by decide +kernel
      have hj2 : j = 6 + N := by omega
      rw [hj2, ← hw_add, e64] at hw1
      have h1 := hC.deep _ _ a1 a2 hlt hw1
      have h2 := hC.nonneg _ _ hlt
      have c1 : cfn p X.1 X.2 = 1 := by omega
      rw [show cntF (ctr (trimP p)) X.1 X.2 = 1 from c1] at ct
      exact ⟨[X], .one c1, fun y hy => by rw [List.mem_singleton.1 hy]; exact oX, (isolate_1 X hX oX ct).ren [(19, 500)]⟩
  | succ n ih =>
    intro j X hj d1 d2 a1 a2 hX hw1
    have oX : okI 150000 X := ⟨(d1.ok D0 hD hM).mono (by omega), (d2.ok D0 hD hM).mono (by omega)⟩
    have ct := countV hp p0 X.1 X.2 oX.1 oX.2
    by_cases c0 : cfn p X.1 X.2 = 0
    · rw [show cntF (ctr (trimP p)) X.1 X.2 = 0 from c0] at ct
      exact ⟨[], .zero c0, fun y hy => by simp at hy, isolate_0 X ct⟩
    · by_cases c1 : cfn p X.1 X.2 = 1
      · rw [show cntF (ctr (trimP p)) X.1 X.2 = 1 from c1] at ct
        exact ⟨[X], .one c1, fun y hy => by rw [List.mem_singleton.1 hy]; exact oX, (isolate_1 X hX oX ct).ren [(19, 500)]⟩
      · obtain ⟨m1, m2, _⟩ := mid_bd hX
        obtain ⟨w1, w2⟩ := half_w hX hw1
        obtain ⟨l, l1, lo, l2⟩ := ih (j + 1) (X.1, mid2 X) (by omega) d1.next (d1.mid D0 d2) a1 (Rat.le_trans m2 a2) m1 w1
        obtain ⟨m, k1, mo, k2⟩ := ih (j + 1) (mid2 X, X.2) (by omega) (d1.mid D0 d2) d2.next (Rat.le_trans a1 m1) a2 m2 w2
        have le1 := l1.len hC.toCnt
        have le2 := k1.len hC.toCnt
        have f1 := hC.few (X.1, mid2 X).1 (X.1, mid2 X).2
        have f2 := hC.few (mid2 X, X.2).1 (mid2 X, X.2).2
        exact ⟨l ++ m, .two c0 c1 l1 k1, fun y hy => (List.mem_append.1 hy).elim (lo y) (mo y), (isolate_2 X hX oX _ c0 c1 ct l m (by omega) (by omega) (l2.ren [(500, 27)]) (k2.ren [(500, 33)])).ren [(27, 500)]⟩
theorem isolate_R {p : List Rat} {X : I2} {l : List I2} (hl : l.length ≤ 1000) (h : RetB Tryz.prog 96 [.d (qssD (ctr (trimP p))), .d (iQ X)] (lookB []) (iO 500 l.length) (lookB [(500, iB l)])) : Ret Tryz.prog 96 [qssD (ctr (trimP p)), iQ X] (· = isD l) :=
  h.toRet (ds := [qssD (ctr (trimP p)), iQ X]) true rfl (by omega)
theorem polynomial_IsolateO {p : List Rat} (hp : PolOk p) (p0 : trimP p ≠ []) (X : I2) (hX : X.1 ≤ X.2) (oX : okI 150000 X) (l : List I2) (h : Ret Tryz.prog 96 [qssD (ctr (trimP p)), iQ X] (· = isD l)) : Ret Tryz.prog 49 [qsD p, qD X.1, qD X.2] (· = .tup [isD l, .int .i64 0]) := by
  have dg := polynomial_DegreeQ p (by have := hp.len; omega) (fun x hx => (hp.ok x hx).mono (by decide))
  have nc := newCounterV hp p0
  have cm := rational_CompareQ X.1 X.2 (oX.1.mono (by decide)) (oX.2.mono (by decide))
  have c1 : ¬ 0 < cmpQ X.1 X.2 := by unfold cmpQ; rw [if_neg (show ¬ X.2 < X.1 by grind)]; split <;> decide
  have hl := Nat.le_trans (trim_len p) hp.len
  have l0 := ne_len p0
  generalize cmpQ X.1 X.2 = u at *
  generalize ctr (trimP p) = C at *
  generalize trimP p = q at *
  clear hp oX hX p0
  refine ret_of_awp tab Tryz.func49 rfl rfl (Nat.le_of_ble_eq_true rfl) (fun w0 F0 => ?_)
  repeat' (first
    | (show awpL _ _ _ _ _; first | refine goL ?_ | refine cl 43 tt rfl rfl rfl (hr := dg) (k := ?_) | refine cl 95 tt rfl rfl rfl (hr := cm) (k := ?_) | refine cl 68 tt rfl rfl rfl (hr := nc) (k := ?_) | refine cl 96 tt rfl rfl rfl (hr := h) (k := ?_) | (refine gdLG ?_ ?_ <;> intro _ <;> try (exfalso; omega)))
    | (show awp _ _ _ _; first | refine goA ?_ | refine rg 8 5 ?_ | (refine cdG ?_ ?_ <;> intro _ <;> try (exfalso; omega)))
    | (show andThen _ _ _ _; refine goN ?_)
    | (show inBlock _ _ _ _; refine goB ?_)
    | (show awpR _ _ _ _ _ _ _; first | refine goR ?_ | refine clR 43 tt rfl rfl rfl (hr := dg) (k := ?_) | refine clR 95 tt rfl rfl rfl (hr := cm) (k := ?_) | refine clR 68 tt rfl rfl rfl (hr := nc) (k := ?_) | refine clR 96 tt rfl rfl rfl (hr := h) (k := ?_) | (refine gdRG ?_ ?_ <;> intro _ <;> try (exfalso; omega)))
    | (show retPost _ _ _ _ _; refine finTG ?_)
    | (show retPostB _ _ _ _ _ _; first | refine finB rfl rfl ?_ ?_ | refine finBT rfl rfl rfl ?_ ?_))
  all_goals first | exact leT | rfl
end Go.Proofs.YtlphlodailailaaGreat
