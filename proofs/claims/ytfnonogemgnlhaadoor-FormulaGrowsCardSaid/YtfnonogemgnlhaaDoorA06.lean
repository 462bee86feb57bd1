/-
  Contracts of functions of the program, and the layer that they are walked with: F07 F08 FmG FmH FmI F17 FmJ VV VU VUd F18 F19 F10 F11 VZ F12 F13 F14 F15 VPe. Conditions: as each says.
-/
import Derived.Stop.IfaceNil
import Derived.KernelRfl
import Derived.Test.YtfnonogemgnlhaaDoorA05
/-
  The program's parser: operands. Conditions: the text is not too long.
-/
set_option linter.unusedVariables false
set_option linter.unusedSimpArgs false
set_option maxHeartbeats 8000000
namespace Go.Proofs.YtfnonogemgnlhaaDoor
open Go.Vw
attribute [local irreducible] awp awpL awpR

def LevC (t : List UInt8) (r i : Nat) : Pos (List Nd) → Prop
  | .ok (e, j) => RetB Tryd.prog 38 [.ptr 600 0, .d (.int .i64 r)] (lookB (pW t i)) (.d (ndsD e)) (lookB (pW t j))
  | .error x => PanB Tryd.prog 38 [.ptr 600 0, .d (.int .i64 r)] (lookB (pW t i)) (ftV x)
def PriC (t : List UInt8) (i : Nat) : Pos (List Nd) → Prop
  | .ok (e, j) => RetB Tryd.prog 65 [.ptr 600 0] (lookB (pW t i)) (.d (ndsD e)) (lookB (pW t j))
  | .error x => PanB Tryd.prog 65 [.ptr 600 0] (lookB (pW t i)) (ftV x)
theorem parser_nxt (t : List UInt8) (i : Nat) (hl : t.length < 1000000000) : RetB Tryd.prog 35 [.ptr 600 0] (lookB (pW t i)) (.tup []) (lookB (pW t (nxt t i))) := parser_next t i (wend t i) (wend_le t i) hl
def BrO (t : List UInt8) (p : Pos (List Nd)) : Pos (List Nd) → Prop
  | .error x => p = .error x
  | .ok (e, j) => j ≤ t.length ∧ ((∃ x, mustP t 41 j = .error x ∧ p = .error x) ∨ ∃ k, mustP t 41 j = .ok k ∧ p = .ok (e, k))
theorem prim_br (t : List UInt8) (i : Nat) (hi : At t i) (hl : t.length < 1000000) (hw : word t i = [40]) (o : Pos (List Nd)) (hL : LevC t 0 (nxt t i) o) (p : Pos (List Nd)) (hp : BrO t p o) : PriC t i p := by
  have w := parser_word t i hi.le
  have n := parser_nxt t i (by omega)
  rw [hw] at w
  generalize nxt t i = i1 at *
  cases o with
  | error x =>
    have hp : p = .error x := hp
    subst hp
    have hL : PanB Tryd.prog 38 [.ptr 600 0, .d (.int .i64 (0 : Nat))] (lookB (pW t i1)) (ftV x) := hL
    show PanB _ _ _ _ _
    clear hi hw
    refine panB_of_awp tab [600] Tryd.func65 rfl rfl (Nat.le_of_ble_eq_true rfl) (fun w0 F0 A io0 => ?_)
    repeat' (first | refine wX ?_ | refine wE ?_ | refine wG ?_ | refine wP hL ?_ | refine wD [] w ?_ | refine wD [] n ?_ | refine wR ?_ | refine wS ?_ ?_ <;> intro _ | exact wQ rfl)
  | ok q =>
    obtain ⟨e, j⟩ := q
    have hL : RetB Tryd.prog 38 [.ptr 600 0, .d (.int .i64 (0 : Nat))] (lookB (pW t i1)) (.d (ndsD e)) (lookB (pW t j)) := hL
    obtain ⟨hj, ⟨x, hx, rfl⟩ | ⟨k, hk, rfl⟩⟩ := hp
    · have m := parser_mustE t 41 j x hj hx
      show PanB _ _ _ _ _
      clear hi hw hx
      refine panB_of_awp tab [600] Tryd.func65 rfl rfl (Nat.le_of_ble_eq_true rfl) (fun w0 F0 A io0 => ?_)
      repeat' (first | refine wX ?_ | refine wE ?_ | refine wG ?_ | refine wP m ?_ | refine wD [] w ?_ | refine wD [] n ?_ | refine wD [] hL ?_ | refine wR ?_ | refine wS ?_ ?_ <;> intro _ | exact wQ rfl)
    · have m := parser_must t 41 j k hj (by omega) hk
      show RetB _ _ _ _ _ _
      clear hi hw hk
      refine retB_of_awp tab [600] Tryd.func65 rfl rfl rfl (Nat.le_of_ble_eq_true rfl) rfl ⟨Nat.le_refl _, trivial⟩ (fun w0 F0 A io0 => ?_)
      repeat' (first | refine wG ?_ | refine wD [] w ?_ | refine wD [] n ?_ | refine wD [] hL ?_ | refine wD [] m ?_ | refine wR ?_ | refine wS ?_ ?_ <;> intro _ | refine wB ?_ ?_ | refine wF ?_)
      all_goals first | exact leVT | exact ⟨rfl, trivial⟩
theorem prim_pow (t : List UInt8) (i : Nat) (hi : At t i) (hl : t.length < 1000000) (hw : word t i = [112, 111, 119, 101, 114]) : PriC t i (powP t (nxt t i)) := by
  have w := parser_word t i hi.le
  have n := parser_nxt t i (by omega)
  have h1 := nxt_le t i
  rw [hw] at w
  generalize nxt t i = i1 at *
  unfold powP
  cases e1 : mustP t 40 i1 with
  | error x =>
    have m1 := parser_mustE t 40 i1 x h1 e1
    show PanB _ _ _ _ _
    clear hi hw e1
    refine panB_of_awp tab [600] Tryd.func65 rfl rfl (Nat.le_of_ble_eq_true rfl) (fun w0 F0 A io0 => ?_)
    repeat' (first | refine wX ?_ | refine wE ?_ | refine wG ?_ | refine wP m1 ?_ | refine wD [] w ?_ | refine wD [] n ?_ | refine wR ?_ | refine wS ?_ ?_ <;> intro _ | exact wQ rfl)
  | ok i2 =>
    have m1 := parser_must t 40 i1 i2 h1 (by omega) e1
    have h2 := (mustP_ok e1).1.le
    simp only
    cases e2 : nameP t i2 with
    | error x =>
      have m2 := parser_nameE t i2 x h2 e2
      show PanB _ _ _ _ _
      clear hi hw e1 e2
      refine panB_of_awp tab [600] Tryd.func65 rfl rfl (Nat.le_of_ble_eq_true rfl) (fun w0 F0 A io0 => ?_)
      repeat' (first | refine wX ?_ | refine wE ?_ | refine wG ?_ | refine wP m2 ?_ | refine wD [] w ?_ | refine wD [] n ?_ | refine wD [] m1 ?_ | refine wR ?_ | refine wS ?_ ?_ <;> intro _ | exact wQ rfl)
    | ok p =>
      obtain ⟨s, i3⟩ := p
      have m2 := parser_name t i2 i3 s h2 (by omega) e2
      have h3 := (nameP_ok e2).1.le
      simp only
      cases e3 : mustP t 44 i3 with
      | error x =>
        have m3 := parser_mustE t 44 i3 x h3 e3
        show PanB _ _ _ _ _
        clear hi hw e1 e2 e3
        refine panB_of_awp tab [600] Tryd.func65 rfl rfl (Nat.le_of_ble_eq_true rfl) (fun w0 F0 A io0 => ?_)
        repeat' (first | refine wX ?_ | refine wE ?_ | refine wG ?_ | refine wP m3 ?_ | refine wD [] w ?_ | refine wD [] n ?_ | refine wD [] m1 ?_ | refine wD [] m2 ?_ | refine wR ?_ | refine wS ?_ ?_ <;> intro _ | exact wQ rfl)
      | ok i4 =>
        have m3 := parser_must t 44 i3 i4 h3 (by omega) e3
        have h4 := (mustP_ok e3).1.le
        simp only
        cases e4 : numP t 2 8 i4 with
        | error x =>
          have m4 := parser_numberE t 2 8 i4 x h4 (by omega) e4
          show PanB _ _ _ _ _
          clear hi hw e1 e2 e3 e4
          refine panB_of_awp tab [600] Tryd.func65 rfl rfl (Nat.le_of_ble_eq_true rfl) (fun w0 F0 A io0 => ?_)
          repeat' (first | refine wX ?_ | refine wE ?_ | refine wG ?_ | refine wP m4 ?_ | refine wD [] w ?_ | refine wD [] n ?_ | refine wD [] m1 ?_ | refine wD [] m2 ?_ | refine wD [] m3 ?_ | refine wR ?_ | refine wS ?_ ?_ <;> intro _ | exact wQ rfl)
        | ok q =>
          obtain ⟨k, i5⟩ := q
          have m4 := parser_number t 2 8 i4 i5 k h4 (by omega) (by omega) e4
          have h5 := (numP_ok e4).1.le
          simp only
          cases e5 : mustP t 41 i5 with
          | error x =>
            have m5 := parser_mustE t 41 i5 x h5 e5
            show PanB _ _ _ _ _
            clear hi hw e1 e2 e3 e4 e5
            refine panB_of_awp tab [600] Tryd.func65 rfl rfl (Nat.le_of_ble_eq_true rfl) (fun w0 F0 A io0 => ?_)
            repeat' (first | refine wX ?_ | refine wE ?_ | refine wG ?_ | refine wP m5 ?_ | refine wD [] w ?_ | refine wD [] n ?_ | refine wD [] m1 ?_ | refine wD [] m2 ?_ | refine wD [] m3 ?_ | refine wD [] m4 ?_ | refine wR ?_ | refine wS ?_ ?_ <;> intro _ | exact wQ rfl)
          | ok i6 =>
            have m5 := parser_must t 41 i5 i6 h5 (by omega) e5
            show RetB _ _ _ _ _ _
            clear hi hw e1 e2 e3 e4 e5
            refine retB_of_awp tab [600] Tryd.func65 rfl rfl rfl (Nat.le_of_ble_eq_true rfl) rfl ⟨Nat.le_refl _, trivial⟩ (fun w0 F0 A io0 => ?_)
            repeat' (first | refine wG ?_ | refine wD [] w ?_ | refine wD [] n ?_ | refine wD [] m1 ?_ | refine wD [] m2 ?_ | refine wD [] m3 ?_ | refine wD [] m4 ?_ | refine wD [] m5 ?_ | refine wR ?_ | refine wS ?_ ?_ <;> intro _ | refine wB ?_ ?_ | refine wF ?_)
            all_goals first | exact leVT | exact ⟨rfl, trivial⟩
theorem prim_atom (t : List UInt8) (i : Nat) (hi : At t i) (hl : t.length < 1000000) (hw : word t i ≠ [40]) : PriC t i (atomP t i) := by
  unfold atomP
  have w := parser_word t i hi.le
  have n := parser_nxt t i (by omega)
  by_cases h0 : word t i = [48]
  · rw [if_pos h0]
    rw [h0] at w
    generalize nxt t i = i1 at *
    show RetB _ _ _ _ _ _
    clear hi hw h0
    refine retB_of_awp tab [600] Tryd.func65 rfl rfl rfl (Nat.le_of_ble_eq_true rfl) rfl ⟨Nat.le_refl _, trivial⟩ (fun w0 F0 A io0 => ?_)
    repeat' (first | refine wG ?_ | refine wD [] w ?_ | refine wD [] n ?_ | refine wR ?_ | refine wS ?_ ?_ <;> intro _ | refine wB ?_ ?_ | refine wF ?_)
    all_goals first | exact leVT | exact ⟨rfl, trivial⟩
  rw [if_neg h0]
  by_cases h1 : word t i = [49]
  · rw [if_pos h1]
    rw [h1] at w
    generalize nxt t i = i1 at *
    show RetB _ _ _ _ _ _
    clear hi hw h0 h1
    refine retB_of_awp tab [600] Tryd.func65 rfl rfl rfl (Nat.le_of_ble_eq_true rfl) rfl ⟨Nat.le_refl _, trivial⟩ (fun w0 F0 A io0 => ?_)
    repeat' (first | refine wG ?_ | refine wD [] w ?_ | refine wD [] n ?_ | refine wR ?_ | refine wS ?_ ?_ <;> intro _ | refine wB ?_ ?_ | refine wF ?_)
    all_goals first | exact leVT | exact ⟨rfl, trivial⟩
  rw [if_neg h1]
  by_cases h2 : word t i = pwB
  · rw [if_pos h2]
    exact prim_pow t i hi hl h2
  rw [if_neg h2]
  have h2 : ¬ word t i = [112, 111, 119, 101, 114] := h2
  unfold varP
  cases e : nameP t i with
  | error x =>
    have m := parser_nameE t i x hi.le e
    show PanB _ _ _ _ _
    generalize word t i = v at *
    clear n hi e
    refine panB_of_awp tab [600] Tryd.func65 rfl rfl (Nat.le_of_ble_eq_true rfl) (fun w0 F0 A io0 => ?_)
    repeat' (first | refine wX ?_ | refine wE ?_ | refine wG ?_ | refine wP m ?_ | refine wD [] w ?_ | refine wR ?_ | refine wS ?_ ?_ <;> intro _ | exact wQ rfl)
  | ok p =>
    obtain ⟨s, j⟩ := p
    have m := parser_name t i j s hi.le (by omega) e
    show RetB _ _ _ _ _ _
    generalize word t i = v at *
    clear n hi e
    refine retB_of_awp tab [600] Tryd.func65 rfl rfl rfl (Nat.le_of_ble_eq_true rfl) rfl ⟨Nat.le_refl _, trivial⟩ (fun w0 F0 A io0 => ?_)
    repeat' (first | refine wG ?_ | refine wD [] w ?_ | refine wD [] m ?_ | refine wR ?_ | refine wS ?_ ?_ <;> intro _ | refine wB ?_ ?_ | refine wF ?_)
    all_goals first | exact leVT | exact ⟨rfl, trivial⟩
theorem prim_step (t : List UInt8) (i : Nat) (hi : At t i) (hl : t.length < 1000000) (IH : ∀ j o, i < j → At t j → Rc t (.lev 0) j o → LevC t 0 j o) (o : Pos (List Nd)) (h : Rc t .pri i o) : PriC t i o := by
  cases h with
  | atom hw => exact prim_atom t i hi hl hw
  | brE hw h1 => exact prim_br t i hi hl hw _ (IH _ _ (nxt_gt (lt_of_word (by rw [hw]; simp))) (at_nxt t i) h1) _ rfl
  | brX hw h1 h2 => exact prim_br t i hi hl hw _ (IH _ _ (nxt_gt (lt_of_word (by rw [hw]; simp))) (at_nxt t i) h1) _ ⟨(h1.goes (at_nxt t i) (.inr rfl)).1.le, .inl ⟨_, h2, rfl⟩⟩
  | brO hw h1 h2 => exact prim_br t i hi hl hw _ (IH _ _ (nxt_gt (lt_of_word (by rw [hw]; simp))) (at_nxt t i) h1) _ ⟨(h1.goes (at_nxt t i) (.inr rfl)).1.le, .inr ⟨_, h2, rfl⟩⟩
end Go.Proofs.YtfnonogemgnlhaaDoor

/-
  The program's parser: expressions by their rules. Conditions: the text is not too long.
-/
set_option maxHeartbeats 8000000
namespace Go.Proofs.YtfnonogemgnlhaaDoor
open Go.Vw
attribute [local irreducible] awp awpL awpR

theorem formula_rule (op : Int) : Ret Tryd.prog 49 [.int .i64 op] (· = .int .i64 (rk op)) := by
  unfold rk
  refine ret_of_awp tab Tryd.func49 rfl rfl (Nat.le_of_ble_eq_true rfl) (fun w0 F0 => ?_)
  repeat' (first | refine wG ?_ | refine wR ?_ | refine wS ?_ ?_ <;> intro _ | refine finG ?_)
  all_goals (refine congrArg (D.int .i64) ?_; ((repeat' split) <;> omega))
abbrev sgD : D := .agg [.str [], .str [], .str [], .str [], .str [], .str [43], .str [45], .str [58], .str [42], .str [47]]
theorem formula_signs : Ret Tryd.prog 50 [] (· = sgD) := by
  refine ret_of_awp tab Tryd.func50 rfl rfl (Nat.le_of_ble_eq_true rfl) (fun w0 F0 => ?_)
  repeat' (first | refine wG ?_ | refine wR ?_ | refine wS ?_ ?_ <;> intro _ | refine finG ?_)
  refine stepBuildC [.str [], .str [], .str [], .str [], .str [], .str [43], .str [45], .str [58], .str [42], .str [47]] rfl rfl (by kernel_rfl) rfl rfl rfl rfl rfl ?_
  repeat' (first | refine wG ?_ | refine wR ?_ | refine wS ?_ ?_ <;> intro _ | refine finG ?_)
  rfl
def outL (t : List UInt8) : Pos (List Nd) → Out
  | .ok (e, j) => .ret (.d (ndsD e)) (pW t j)
  | .error x => .pan (ftV x)
theorem outL_cov (t : List UInt8) (o : Pos (List Nd)) : coverO [600] (outL t o) = true := by
  cases o with
  | error x => rfl
  | ok p => rfl
theorem outL_ln (t : List UInt8) (i : Nat) (o : Pos (List Nd)) : LnO (pW t i) (outL t o) := by
  cases o with
  | error x => exact trivial
  | ok p => exact ⟨Nat.le_refl _, trivial⟩
theorem levC_of {t : List UInt8} {r i : Nat} {o : Pos (List Nd)} (h : OutB Tryd.prog 38 [.ptr 600 0, .d (.int .i64 r)] (pW t i) (outL t o)) : LevC t r i o := by
  cases o with
  | error x => exact h
  | ok p => exact h
theorem ndEq {l l' : List Nd} (h : l = l') : V.d (.sl 3 ndC nd0 l) = V.d (ndsD l') := by rw [h]
theorem level3_step (t : List UInt8) (i : Nat) (hi : At t i) (hl : t.length < 1000000) (IH : ∀ o, Rc t .pri i o → PriC t i o) (o : Pos (List Nd)) (h : Rc t (.lev 3) i o) : LevC t 3 i o := by
  cases h with
  | levE h => omega
  | levO h => omega
  | @raiE _ x h1 =>
    have p : PanB _ _ _ _ _ := IH _ h1
    show PanB _ _ _ _ _
    clear IH h1 hi
    refine panB_of_awp tab [600] Tryd.func38 rfl rfl (Nat.le_of_ble_eq_true rfl) (fun w0 F0 A io0 => ?_)
    repeat' (first | refine wX ?_ | refine wE ?_ | refine wG ?_ | refine wP p ?_ | refine wR ?_ | refine wS ?_ ?_ <;> intro _ | exact wQ rfl)
  | @raiO _ e j _ h1 h2 =>
    have p : RetB _ _ _ _ _ _ := IH _ h1
    have g := h1.goes hi (.inr rfl)
    have g1 := g.1.le
    have g3 := g.2.2.1
    simp only [Kd.pre] at g3
    refine levC_of ?_
    clear IH h1
    refine outB_of_awp tab [600] Tryd.func38 rfl rfl rfl (Nat.le_of_ble_eq_true rfl) (outL_cov t o) (outL_ln t i o) (fun w0 F0 A io0 => ?_)
    repeat' (first | refine wX ?_ | refine wE ?_ | refine wG ?_ | refine wD [] p ?_ | refine wR ?_ | refine wS ?_ ?_ <;> intro _ | exact wQ rfl | (refine wO ?_; refine wB ?_ ?_) | (refine wO ?_; refine wF ?_))
    refine awp_loop2 (fun (e : List Nd) (j : Nat) => ([(0, .ptr 600 0), (5, .d (ndsD e))], pW t j)) (fun e j => Rc t (.rai e) j o ∧ At t j ∧ e.length ≤ j) (fun e j => t.length - j) e j ⟨h2, g.1, by omega⟩ ⟨rfl, rfl, rfl⟩ ⟨rfl, trivial⟩ (fun e j hj => ?_)
    obtain ⟨hr, ha, he⟩ := hj
    have haL := ha.le
    clear h2 g g1 g3 p
    have w := parser_word t j ha.le
    cases hr with
    | rai0 hw =>
      generalize word t j = v at *
      repeat' (first | refine wX ?_ | refine wE ?_ | refine wG ?_ | refine wD [] w ?_ | refine wR ?_ | refine wS ?_ ?_ <;> intro _ | exact wQ rfl | (refine wO ?_; refine wB ?_ ?_) | (refine wO ?_; refine wF ?_))
      all_goals first | exact leVT | exact ⟨rfl, trivial⟩
    | @raiX _ _ x hw h1 =>
      rw [hw] at w
      have n := parser_nxt t j (by omega)
      have m := parser_numberE t 1 6 (nxt t j) x (nxt_le t j) (by omega) h1
      generalize nxt t j = j1 at *
      clear hw h1
      repeat' (first | refine wX ?_ | refine wE ?_ | refine wG ?_ | refine wP m ?_ | refine wD [] w ?_ | refine wD [] n ?_ | refine wR ?_ | refine wS ?_ ?_ <;> intro _ | exact wQ rfl | (refine wO ?_; refine wB ?_ ?_) | (refine wO ?_; refine wF ?_))
    | @raiN _ _ k j2 _ hw h1 h2 =>
      have hlt := nxt_gt (lt_of_word (t := t) (i := j) (by rw [hw]; simp))
      rw [hw] at w
      have n := parser_nxt t j (by omega)
      have m := parser_number t 1 6 (nxt t j) j2 k (nxt_le t j) (by omega) (by omega) h1
      have a := numP_ok h1
      generalize nxt t j = j1 at *
      clear hw h1
      have a2 := a.1
      have a3 := a2.le
      have a4 := a.2.1
      clear a
      repeat' (first | refine stepAppF (en := ndC) (z := nd0) (l := [((10 : Int), [], (k : Int))]) tt rfl rfl rfl rfl rfl rfl rfl rfl rfl rfl rfl (LeD.refl _) (LeD.lit rfl (LeR.cons rfl leL LeR.nil)) sc ?_ | refine wX ?_ | refine wE ?_ | refine wG ?_ | refine wD [] w ?_ | refine wD [] n ?_ | refine wD [] m ?_ | refine wR ?_ | refine wS ?_ ?_ <;> intro _ | exact wQ rfl | (refine wO ?_; refine wB ?_ ?_) | (refine wO ?_; refine wF ?_))
      exact ⟨_, j2, ⟨h2, a2, by simp; omega⟩, by omega, ⟨rfl, rfl, rfl⟩, rfl, trivial⟩
theorem take65 (l : List Nd) : cut 0 (min (l.length : Int) 65).toNat l = l.take 65 := by
  rw [cut_zero]
  by_cases h : l.length ≤ 65
  · rw [List.take_of_length_le (by omega), List.take_of_length_le h]
  · congr 1; omega
theorem sgn_next {r k : Nat} {w : List UInt8} (h : sgW k = w) (h0 : sgW k ≠ []) (hr : rk k = r) : opA r w (k + 1) = k := by
  rw [opA, if_pos ⟨h0, h, hr⟩]
theorem sgn_skip {r k : Nat} {w : List UInt8} (h : ¬ (sgW k ≠ [] ∧ sgW k = w ∧ rk k = r)) : opA r w (k + 1) = opA r w k := by
  rw [opA, if_neg h]
theorem level_step (t : List UInt8) (i r : Nat) (hr : r < 3) (hi : At t i) (hl : t.length < 1000000) (IH : ∀ j o, i ≤ j → At t j → Rc t (.lev (r + 1)) j o → LevC t (r + 1) j o) (o : Pos (List Nd)) (h : Rc t (.lev r) i o) : LevC t r i o := by
  cases h with
  | raiE h1 => omega
  | raiO h1 => omega
  | @levE _ _ x h h1 =>
    have p : PanB Tryd.prog 38 [.ptr 600 0, .d (.int .i64 (r + 1 : Nat))] _ _ := IH _ _ (Nat.le_refl _) hi h1
    show PanB _ _ _ _ _
    clear IH h1 hi
    refine panB_of_awp tab [600] Tryd.func38 rfl rfl (Nat.le_of_ble_eq_true rfl) (fun w0 F0 A io0 => ?_)
    repeat' (first | refine wX ?_ | refine wE ?_ | refine wG ?_ | refine wP p ?_ | refine wR ?_ | refine wS ?_ ?_ <;> intro _ | exact wQ rfl)
  | @levO _ _ e j _ h h1 h2 =>
    have p : RetB Tryd.prog 38 [.ptr 600 0, .d (.int .i64 (r + 1 : Nat))] _ _ _ := IH _ _ (Nat.le_refl _) hi h1
    have g := h1.goes hi (.inr rfl)
    have g1 := g.1.le
    have g2 := g.2.1
    have g3 := g.2.2.1
    have g4 := g.2.2.2.1
    simp only [Kd.pre] at g3
    refine levC_of ?_
    refine outB_of_awp tab [600] Tryd.func38 rfl rfl rfl (Nat.le_of_ble_eq_true rfl) (outL_cov t o) (outL_ln t i o) (fun w0 F0 A io0 => ?_)
    repeat' (first | refine wX ?_ | refine wE ?_ | refine wG ?_ | refine wD [] p ?_ | refine wR ?_ | refine wS ?_ ?_ <;> intro _ | exact wQ rfl | (refine wO ?_; refine wB ?_ ?_) | (refine wO ?_; refine wF ?_))
    refine awp_loop2 (fun (e : List Nd) (j : Nat) => ([(0, .ptr 600 0), (1, .d (.int .i64 r)), (6, .d (ndsD e))], pW t j)) (fun e j => Rc t (.bin r e) j o ∧ At t j ∧ e.length ≤ j ∧ i ≤ j ∧ 1 ≤ e.length) (fun e j => t.length - j) e j ⟨h2, g.1, by omega, g2, g4⟩ ⟨rfl, rfl, rfl, rfl⟩ ⟨rfl, trivial⟩ (fun e j hj => ?_)
    obtain ⟨hb, ha, he, hij, he1⟩ := hj
    clear h1 h2 g g1 g2 g3 g4 p
    have haL := ha.le
    have w := parser_word t j ha.le
    have sg := formula_signs
    repeat' (first | refine wX ?_ | refine wE ?_ | refine wG ?_ | refine wC sg ?_ | refine wR ?_ | refine wS ?_ ?_ <;> intro _ | exact wQ rfl | (refine wO ?_; refine wB ?_ ?_) | (refine wO ?_; refine wF ?_))
    refine awp_loop1 (fun (k : Nat) => ([(0, .ptr 600 0), (1, .d (.int .i64 r)), (6, .d (ndsD e)), (7, .d (.int .i64 (opA r (word t j) k))), (30, .d sgD), (31, .d (.int .i64 k))], pW t j)) (fun k => k ≤ 10) (fun k => 10 - k) 0 (by omega) ⟨rfl, rfl, rfl, rfl, rfl, rfl, rfl⟩ ⟨rfl, trivial⟩ (fun k hk => ?_)
    by_cases k10 : k < 10
    · have hk : k = 0 ∨ k = 1 ∨ k = 2 ∨ k = 3 ∨ k = 4 ∨ k = 5 ∨ k = 6 ∨ k = 7 ∨ k = 8 ∨ k = 9 := by omega
      clear hb IH ha hi
      generalize word t j = v at *
      rcases hk with e1 | e1 | e1 | e1 | e1 | e1 | e1 | e1 | e1 | e1 <;> subst e1
      · repeat' (first | refine wX ?_ | refine wE ?_ | refine wG ?_ | refine wD [] w ?_ | refine wR ?_ | refine wS ?_ ?_ <;> intro _ | exact wQ rfl | (refine wO ?_; refine wB ?_ ?_) | (refine wO ?_; refine wF ?_))
        exact ⟨0 + 1, by omega, by omega, ⟨rfl, rfl, rfl, rfl, rfl, rfl, rfl⟩, rfl, trivial⟩
      · repeat' (first | refine wX ?_ | refine wE ?_ | refine wG ?_ | refine wD [] w ?_ | refine wR ?_ | refine wS ?_ ?_ <;> intro _ | exact wQ rfl | (refine wO ?_; refine wB ?_ ?_) | (refine wO ?_; refine wF ?_))
        exact ⟨1 + 1, by omega, by omega, ⟨rfl, rfl, rfl, rfl, rfl, rfl, rfl⟩, rfl, trivial⟩
      · repeat' (first | refine wX ?_ | refine wE ?_ | refine wG ?_ | refine wD [] w ?_ | refine wR ?_ | refine wS ?_ ?_ <;> intro _ | exact wQ rfl | (refine wO ?_; refine wB ?_ ?_) | (refine wO ?_; refine wF ?_))
        exact ⟨2 + 1, by omega, by omega, ⟨rfl, rfl, rfl, rfl, rfl, rfl, rfl⟩, rfl, trivial⟩
      · repeat' (first | refine wX ?_ | refine wE ?_ | refine wG ?_ | refine wD [] w ?_ | refine wR ?_ | refine wS ?_ ?_ <;> intro _ | exact wQ rfl | (refine wO ?_; refine wB ?_ ?_) | (refine wO ?_; refine wF ?_))
        exact ⟨3 + 1, by omega, by omega, ⟨rfl, rfl, rfl, rfl, rfl, rfl, rfl⟩, rfl, trivial⟩
      · repeat' (first | refine wX ?_ | refine wE ?_ | refine wG ?_ | refine wD [] w ?_ | refine wR ?_ | refine wS ?_ ?_ <;> intro _ | exact wQ rfl | (refine wO ?_; refine wB ?_ ?_) | (refine wO ?_; refine wF ?_))
        exact ⟨4 + 1, by omega, by omega, ⟨rfl, rfl, rfl, rfl, rfl, rfl, rfl⟩, rfl, trivial⟩
      · have ru := formula_rule 5
        repeat' (first | refine wX ?_ | refine wE ?_ | refine wG ?_ | refine wD [] w ?_ | refine wC ((ru.to (r' := .int .i64 0) rfl)) ?_ | refine wR ?_ | refine wS ?_ ?_ <;> intro _ | exact wQ rfl | (refine wO ?_; refine wB ?_ ?_) | (refine wO ?_; refine wF ?_))
        all_goals refine ⟨5 + 1, by omega, by omega, ⟨rfl, rfl, rfl, ?_, rfl, rfl, rfl⟩, rfl, trivial⟩
        all_goals refine iv ?_
        all_goals first | exact (sgn_next (k := 5) (show ([43] : List UInt8) = v by assumption) (by decide) (show 0 = r by omega)).symm | exact (sgn_skip (k := 5) (by rintro ⟨_, g1, g2⟩; first | exact absurd (show ([43] : List UInt8) = v from g1) (by assumption) | (have : 0 = r := g2; omega))).symm
      · have ru := formula_rule 6
        repeat' (first | refine wX ?_ | refine wE ?_ | refine wG ?_ | refine wD [] w ?_ | refine wC ((ru.to (r' := .int .i64 0) rfl)) ?_ | refine wR ?_ | refine wS ?_ ?_ <;> intro _ | exact wQ rfl | (refine wO ?_; refine wB ?_ ?_) | (refine wO ?_; refine wF ?_))
        all_goals refine ⟨6 + 1, by omega, by omega, ⟨rfl, rfl, rfl, ?_, rfl, rfl, rfl⟩, rfl, trivial⟩
        all_goals refine iv ?_
        all_goals first | exact (sgn_next (k := 6) (show ([45] : List UInt8) = v by assumption) (by decide) (show 0 = r by omega)).symm | exact (sgn_skip (k := 6) (by rintro ⟨_, g1, g2⟩; first | exact absurd (show ([45] : List UInt8) = v from g1) (by assumption) | (have : 0 = r := g2; omega))).symm
      · have ru := formula_rule 7
        repeat' (first | refine wX ?_ | refine wE ?_ | refine wG ?_ | refine wD [] w ?_ | refine wC ((ru.to (r' := .int .i64 2) rfl)) ?_ | refine wR ?_ | refine wS ?_ ?_ <;> intro _ | exact wQ rfl | (refine wO ?_; refine wB ?_ ?_) | (refine wO ?_; refine wF ?_))
        all_goals refine ⟨7 + 1, by omega, by omega, ⟨rfl, rfl, rfl, ?_, rfl, rfl, rfl⟩, rfl, trivial⟩
        all_goals refine iv ?_
        all_goals first | exact (sgn_next (k := 7) (show ([58] : List UInt8) = v by assumption) (by decide) (show 2 = r by omega)).symm | exact (sgn_skip (k := 7) (by rintro ⟨_, g1, g2⟩; first | exact absurd (show ([58] : List UInt8) = v from g1) (by assumption) | (have : 2 = r := g2; omega))).symm
      · have ru := formula_rule 8
        repeat' (first | refine wX ?_ | refine wE ?_ | refine wG ?_ | refine wD [] w ?_ | refine wC ((ru.to (r' := .int .i64 1) rfl)) ?_ | refine wR ?_ | refine wS ?_ ?_ <;> intro _ | exact wQ rfl | (refine wO ?_; refine wB ?_ ?_) | (refine wO ?_; refine wF ?_))
        all_goals refine ⟨8 + 1, by omega, by omega, ⟨rfl, rfl, rfl, ?_, rfl, rfl, rfl⟩, rfl, trivial⟩
        all_goals refine iv ?_
        all_goals first | exact (sgn_next (k := 8) (show ([42] : List UInt8) = v by assumption) (by decide) (show 1 = r by omega)).symm | exact (sgn_skip (k := 8) (by rintro ⟨_, g1, g2⟩; first | exact absurd (show ([42] : List UInt8) = v from g1) (by assumption) | (have : 1 = r := g2; omega))).symm
      · have ru := formula_rule 9
        repeat' (first | refine wX ?_ | refine wE ?_ | refine wG ?_ | refine wD [] w ?_ | refine wC ((ru.to (r' := .int .i64 1) rfl)) ?_ | refine wR ?_ | refine wS ?_ ?_ <;> intro _ | exact wQ rfl | (refine wO ?_; refine wB ?_ ?_) | (refine wO ?_; refine wF ?_))
        all_goals refine ⟨9 + 1, by omega, by omega, ⟨rfl, rfl, rfl, ?_, rfl, rfl, rfl⟩, rfl, trivial⟩
        all_goals refine iv ?_
        all_goals first | exact (sgn_next (k := 9) (show ([47] : List UInt8) = v by assumption) (by decide) (show 1 = r by omega)).symm | exact (sgn_skip (k := 9) (by rintro ⟨_, g1, g2⟩; first | exact absurd (show ([47] : List UInt8) = v from g1) (by assumption) | (have : 1 = r := g2; omega))).symm
    · have ek : k = 10 := by omega
      subst ek
      have hz := opA_eq hr (word t j)
      generalize opA r (word t j) 10 = z at *
      clear w sg
      cases hb with
      | bin0 hop =>
        rw [hop] at hz
        have hz : z = 0 := hz
        clear IH ha hi hop
        repeat' (first | refine wX ?_ | refine wE ?_ | refine wG ?_ | refine wR ?_ | refine wS ?_ ?_ <;> intro _ | exact wQ rfl | (refine wO ?_; refine wB ?_ ?_) | (refine wO ?_; refine wF ?_))
        all_goals first | exact leVT | exact ⟨rfl, trivial⟩
      | @binE _ _ _ op x hop h1 =>
        have ho := opOf_op hop
        have hlt := nxt_gt (opOf_lt hop)
        rw [hop] at hz
        have hz : z = op := hz
        subst hz
        have n := parser_nxt t j (by omega)
        have p : PanB Tryd.prog 38 [.ptr 600 0, .d (.int .i64 (r + 1 : Nat))] _ _ := IH _ _ (by omega) (at_nxt t j) h1
        generalize nxt t j = j1 at *
        clear IH ha hi hop h1
        repeat' (first | refine wX ?_ | refine wE ?_ | refine wG ?_ | refine wP p ?_ | refine wD [] n ?_ | refine wR ?_ | refine wS ?_ ?_ <;> intro _ | exact wQ rfl | (refine wO ?_; refine wB ?_ ?_) | (refine wO ?_; refine wF ?_))
      | @binO _ _ _ op e2 j2 _ hop h1 h2 =>
        have ho := opOf_op hop
        have hlt := nxt_gt (opOf_lt hop)
        have g := h1.goes (at_nxt t j) (.inr rfl)
        have g0 := g.1
        have g1 := g.1.le
        have g2 := g.2.1
        have g3 := g.2.2.1
        have g4 := g.2.2.2.1
        simp only [Kd.pre] at g3
        clear g
        have hn := nxt_le t j
        rw [hop] at hz
        have hz : z = op := hz
        subst hz
        have n := parser_nxt t j (by omega)
        have p : RetB Tryd.prog 38 [.ptr 600 0, .d (.int .i64 (r + 1 : Nat))] _ _ _ := IH _ _ (by omega) (at_nxt t j) h1
        generalize nxt t j = j1 at *
        have fl : ([[(z, [], (0 : Int))], e, e2] : List (List Nd)).flatten = (z, [], (0 : Int)) :: (e ++ e2) := by simp
        have cc := nodes_Concat [[(z, [], (0 : Int))], e, e2] (by rw [fl]; simp) (by rw [fl]; simp; omega) (by simp)
        rw [fl] at cc
        have t65 := take65 ((z, [], (0 : Int)) :: (e ++ e2))
        have hl65 : (((z, [], (0 : Int)) :: (e ++ e2)).take 65).length ≤ j2 := by simp; omega
        have hl1 : 1 ≤ (((z, [], (0 : Int)) :: (e ++ e2)).take 65).length := by simp
        rw [cut_zero] at t65
        generalize (z, [], (0 : Int)) :: (e ++ e2) = E at *
        clear IH ha hi hop h1 fl
        repeat' (first | refine wX ?_ | refine wE ?_ | refine wG ?_ | refine wD [] n ?_ | refine wD [] p ?_ | refine wC cc ?_ | refine wR ?_ | refine wS ?_ ?_ <;> intro _ | exact wQ rfl | (refine wO ?_; refine wB ?_ ?_) | (refine wO ?_; refine wF ?_))
        exact ⟨_, j2, ⟨h2, g0, hl65, by omega, hl1⟩, by omega, ⟨rfl, rfl, ndEq t65, rfl⟩, rfl, trivial⟩
theorem parser_all (t : List UInt8) (hl : t.length < 1000000) : ∀ (n : Nat) (i : Nat), At t i → (∀ r o, r ≤ 3 → 6 * (t.length - i) + (5 - r) ≤ n → Rc t (.lev r) i o → LevC t r i o) ∧ (∀ o, 6 * (t.length - i) + 1 ≤ n → Rc t .pri i o → PriC t i o) := by
  intro n
  induction n using Nat.strongRecOn with
  | _ n ih =>
    intro i hi
    refine ⟨fun r o hr hn h => ?_, fun o hn h => ?_⟩
    · by_cases h3 : r = 3
      · subst h3
        exact level3_step t i hi hl (fun o h => (ih (n - 1) (by omega) i hi).2 o (by omega) h) o h
      · exact level_step t i r (by omega) hi hl (fun j o hij hj h => (ih (n - 1) (by omega) j hj).1 (r + 1) o (by omega) (by omega) h) o h
    · exact prim_step t i hi hl (fun j o hij hj h => (ih (n - 1) (by omega) j hj).1 0 o (by omega) (by have := hj.le; omega) h) o h
theorem parser_level (t : List UInt8) (hl : t.length < 1000000) (r i : Nat) (o : Pos (List Nd)) (hr : r ≤ 3) (hi : At t i) (h : Rc t (.lev r) i o) : LevC t r i o := (parser_all t hl _ i hi).1 r o hr (Nat.le_refl _) h
end Go.Proofs.YtfnonogemgnlhaaDoor

/-
  The reference's reader: bytes at places. Conditions: none.
-/
namespace Go.Vw

theorem skp_big {t : List UInt8} {a : Nat} (h : t.length ≤ a) : skp t a = a := by
  unfold skp runE; rw [List.drop_eq_nil_of_le h]; rfl
theorem skp_skp (t : List UInt8) (a : Nat) : skp t (skp t a) = skp t a := by
  by_cases h : a ≤ t.length
  · exact runE_idem h
  · have := skp_big (t := t) (a := a) (by omega)
    rw [this, this]
theorem skp_ge (t : List UInt8) (a : Nat) : a ≤ skp t a := runE_ge _ _ _
theorem skp_max (t : List UInt8) (a : Nat) : skp t a ≤ max a t.length := by
  by_cases h : a ≤ t.length
  · have := runE_le isBl h; unfold skp; omega
  · rw [skp_big (by omega)]; omega
theorem sg_nxt {t : List UInt8} {i : Nat} {c : UInt8} (h1 : isLet c = false) (h2 : isDig c = false) (h : word t i = [c]) : nxt t i = skp t (i + 1) := by
  have hlt := lt_of_word (t := t) (i := i) (by rw [h]; simp)
  have hw : wend t i = i + 1 := by
    have : (word t i).getD 0 0 = t.getD i 0 := by
      unfold word
      have := wend_gt hlt
      simp only [List.getD_eq_getElem?_getD, List.getElem?_take, List.getElem?_drop, Nat.add_zero]
      rw [if_pos (by omega)]
    rw [h] at this
    have : t.getD i 0 = c := this.symm
    unfold wend
    rw [if_pos hlt, this, h1, h2]; rfl
  unfold nxt; rw [hw]
theorem word_len {t : List UInt8} {i : Nat} (h : i ≤ t.length) : (word t i).length = wend t i - i := by
  have := wend_le t i
  unfold word; simp; omega
theorem dig_nxt {t : List UInt8} {i n : Nat} (h : digP t i = some n) : nxt t i = skp t (i + 1) := by
  have hlt := (digP_lt h).1
  unfold digP at h
  split at h
  · rename_i hw
    have := word_len (t := t) (i := i) (by omega)
    have hg := wend_gt hlt
    unfold nxt
    congr 1; omega
  · cases h
end Go.Vw

/-
  Signs of operations and single digits, by bytes. Conditions: none.
-/
namespace Go.Vw
end Go.Vw

/-
  Valid right sides, by counting and by ends. Conditions: none.
-/
namespace Go.Vw
def opI (n : Nd) : Int := if leafB? n then 0 else if n.1 = 10 ∧ n.2.1 = [] ∧ 1 ≤ n.2.2 ∧ n.2.2 ≤ 6 then 1 else if 5 ≤ n.1 ∧ n.1 ≤ 9 ∧ n.2.1 = [] ∧ n.2.2 = 0 then 2 else -1
theorem opI_none {n : Nd} (h : opnd n = none) : opI n = -1 := by
  unfold opnd at h
  unfold opI
  split at h
  · cases h
  · rename_i h1
    rw [if_neg h1]
    split at h
    · cases h
    · rename_i h2
      rw [if_neg h2]
      split at h
      · cases h
      · rename_i h3; rw [if_neg h3]
theorem opI_some {n : Nd} {a : Nat} (h : opnd n = some a) : opI n = a ∧ a ≤ 2 := by
  unfold opnd at h
  unfold opI
  split at h
  · rename_i h1; rw [if_pos h1]; cases h; exact ⟨rfl, by omega⟩
  · rename_i h1
    rw [if_neg h1]
    split at h
    · rename_i h2; rw [if_pos h2]; cases h; exact ⟨rfl, by omega⟩
    · rename_i h2
      rw [if_neg h2]
      split at h
      · rename_i h3; rw [if_pos h3]; cases h; exact ⟨rfl, by omega⟩
      · cases h
def nodeB (n : Nd) : Bool := if n.1 = 1 then isName n.2.1 && decide (n.2.2 = 0) else if n.1 = 2 then isName n.2.1 && (decide (2 ≤ n.2.2) && decide (n.2.2 ≤ 8)) else if n.1 = 10 then decide (n.2.1 = []) && (decide (1 ≤ n.2.2) && decide (n.2.2 ≤ 6)) else decide (n.2.1 = []) && decide (n.2.2 = 0)
theorem opnd_node (n : Nd) : opnd n ≠ none ↔ 0 ≤ arity n.1 ∧ nodeB n = true := by
  obtain ⟨op, s, k⟩ := n
  unfold opnd nodeB arity
  by_cases h1 : op = 1
  · subst h1; simp [leafB?]
  by_cases h2 : op = 2
  · subst h2; simp [leafB?, and_assoc]
  by_cases h3 : op = 3
  · subst h3; simp [leafB?]
  by_cases h4 : op = 4
  · subst h4; simp [leafB?]
  by_cases h10 : op = 10
  · subst h10; simp [leafB?]
  have hl : leafB? (op, s, k) = false := by simp [leafB?, h1, h2, h3, h4]
  simp only [hl, h1, h2, h10]
  by_cases h5 : 5 ≤ op ∧ op ≤ 9
  · have : ¬ (1 ≤ op ∧ op ≤ 4) := by omega
    simp [h5, this]
  · have : ¬ (1 ≤ op ∧ op ≤ 4) := by omega
    simp [h5, this]
    intro a b; omega
theorem cnt_opnd : ∀ {l : List Nd} {k : Nat}, cnt l k = true → ∀ n ∈ l, opnd n ≠ none
  | [], _, _, n, hn => by cases hn
  | m :: l, k, h, n, hn => by
    simp only [cnt] at h
    split at h
    · rename_i a k2 ha
      rcases List.mem_cons.1 hn with q | q
      · subst q; rw [ha]; simp
      · exact cnt_opnd h n q
    · cases h
theorem endN_ar : ∀ {l : List Nd} {k : Nat}, endN l k = some l.length → ∀ n ∈ l, 0 ≤ arity n.1
  | [], _, h, n, hn => by cases hn
  | m :: l, k, h, n, hn => by
    simp only [endN] at h
    split at h
    · cases h
    · rename_i ha
      rcases List.mem_cons.1 hn with q | q
      · subst q; omega
      · split at h
        · simp only [List.length_cons, Option.some.injEq] at h
          have : l = [] := List.eq_nil_of_length_eq_zero (by omega)
          subst this; cases q
        · simp only [Option.map_eq_some_iff, List.length_cons] at h
          obtain ⟨x, h1, h2⟩ := h
          have : x = l.length := by omega
          subst this
          exact endN_ar h1 n q
theorem cnt_end (e : List Nd) : cnt e 1 = true ↔ (endN e 1 = some e.length ∧ ∀ n ∈ e, nodeB n = true) := by
  constructor
  · intro h
    have h1 := cnt_opnd h
    exact ⟨(endN_cnt h1 (Nat.le_refl _)).2 h, fun n hn => ((opnd_node n).1 (h1 n hn)).2⟩
  · rintro ⟨h1, h2⟩
    have h3 := endN_ar h1
    exact (endN_cnt (fun n hn => (opnd_node n).2 ⟨h3 n hn, h2 n hn⟩) (Nat.le_refl _)).1 h1
def vld (s : List UInt8) (e : List Nd) : Bool := isName s && (cnt e 1 && decide (e.length ≤ 64))
def endI (e : List Nd) (i w : Nat) : Int := match endN (e.drop i) w with | some n => (i : Int) + n | none => -1
theorem endI_neg {e : List Nd} {i w : Nat} {n : Nd} (h : e.drop i = n :: e.drop (i + 1)) (ha : arity n.1 < 0) : endI e i w = -1 := by
  unfold endI; rw [h]; simp only [endN]; rw [if_pos ha]
theorem endI_end {e : List Nd} {i w : Nat} {n : Nd} (h : e.drop i = n :: e.drop (i + 1)) (ha : 0 ≤ arity n.1) (hw : w + (arity n.1).toNat - 1 = 0) : endI e i w = (i : Int) + 1 := by
  unfold endI; rw [h]; simp only [endN]; rw [if_neg (by omega), hw]; rfl
theorem endI_step {e : List Nd} {i w : Nat} {n : Nd} (h : e.drop i = n :: e.drop (i + 1)) (ha : 0 ≤ arity n.1) (hw : w + (arity n.1).toNat - 1 ≠ 0) : endI e i w = endI e (i + 1) (w + (arity n.1).toNat - 1) := by
  unfold endI; rw [h]; simp only [endN]; rw [if_neg (by omega)]
  obtain ⟨j, hj⟩ := Nat.exists_eq_succ_of_ne_zero hw
  rw [hj]
  simp only [Nat.succ_eq_add_one]
  cases endN (e.drop (i + 1)) (j + 1) with
  | none => rfl
  | some m => simp only [Option.map_some]; omega
theorem endI_nil {e : List Nd} {i w : Nat} (h : e.length ≤ i) : endI e i w = -1 := by
  unfold endI; rw [List.drop_eq_nil_of_le h]; rfl
theorem arity_le (op : Int) : -1 ≤ arity op ∧ arity op ≤ 2 := by
  unfold arity; repeat' split
  all_goals omega
theorem endI_iff (e : List Nd) : endI e 0 1 = e.length ↔ endN e 1 = some e.length := by
  unfold endI
  rw [List.drop_zero]
  cases endN e 1 with
  | none => first | (simp; done) | (simp; omega)
  | some n => first | (simp; done) | (simp; omega)
end Go.Vw

/-
  Valid formulas, by the program and by the reference. Conditions: not too many nodes.
-/
set_option maxHeartbeats 8000000
namespace Go.Proofs.YtfnonogemgnlhaaDoor
open Go.Vw
attribute [local irreducible] awp awpL awpR

abbrev ndA (n : Nd) : D := .agg [.int .i64 n.1, .str n.2.1, .int .i64 n.2.2]
theorem formula_operands (n : Nd) : Ret Tryd.prog 29 [ndA n] (· = .int .i64 (opI n)) := by
  obtain ⟨op, s, k⟩ := n
  have tn := table_Name s
  unfold opI leafB? ndA
  simp only
  generalize isName s = b at *
  refine ret_of_awp tab Tryd.func29 rfl rfl (Nat.le_of_ble_eq_true rfl) (fun w0 F0 => ?_)
  repeat' (first | refine wG ?_ | refine wC tn ?_ | refine wR ?_ | refine wS ?_ ?_ <;> intro _ | refine finG ?_)
  all_goals (refine congrArg (D.int .i64) ?_; simp_all <;> ((repeat' split) <;> omega))
theorem ref_Arity (op : Int) : Ret Tryd.prog 59 [.int .i64 op] (· = .int .i64 (arity op)) := by
  unfold arity
  refine ret_of_awp tab Tryd.func59 rfl rfl (Nat.le_of_ble_eq_true rfl) (fun w0 F0 => ?_)
  repeat' (first | refine wG ?_ | refine wR ?_ | refine wS ?_ ?_ <;> intro _ | refine finG ?_)
  all_goals (refine congrArg (D.int .i64) ?_; ((repeat' split) <;> omega))
theorem ref_node (n : Nd) : Ret Tryd.prog 33 [ndA n] (· = .bool (nodeB n)) := by
  obtain ⟨op, s, k⟩ := n
  have tn := ref08_Name s
  unfold nodeB ndA
  simp only
  generalize isName s = b at *
  refine ret_of_awp tab Tryd.func33 rfl rfl (Nat.le_of_ble_eq_true rfl) (fun w0 F0 => ?_)
  repeat' (first | refine wG ?_ | refine wC tn ?_ | refine wR ?_ | refine wS ?_ ?_ <;> intro _ | refine finG ?_)
  all_goals (refine congrArg D.bool ?_; simp_all <;> (intros; omega))
theorem formula_Valid (s : List UInt8) (e : List Nd) (hl : e.length ≤ 1000) : Ret Tryd.prog 17 [.agg [.str s, ndsD e]] (· = .bool (vld s e)) := by
  have tn := table_Name s
  unfold vld
  generalize isName s = b at *
  refine ret_of_awp tab Tryd.func17 rfl rfl (Nat.le_of_ble_eq_true rfl) (fun w0 F0 => ?_)
  repeat' (first | refine wG ?_ | refine wR ?_ | refine wS ?_ ?_ <;> intro _ | refine finG ?_)
  refine awp_loop2 (fun (i o : Nat) => ([(1, .ptr 1 0), (3, .d (.int .i64 o)), (8, .d (ndsD e)), (9, .d (.int .i64 e.length)), (10, .d (.int .i64 i))], [(1, .box 25 [.d (.str s), .d (ndsD e)])])) (fun i o => i ≤ e.length ∧ o ≤ 10 * i + 1 ∧ cnt (e.drop i) o = cnt e 1) (fun i o => e.length - i) 0 1 ⟨by omega, by omega, by simp⟩ ⟨rfl, rfl, rfl, rfl, rfl, rfl⟩ ⟨rfl, trivial⟩ (fun i o hi => ?_)
  obtain ⟨hi, ho, hc⟩ := hi
  rw [← hc]
  clear hc
  by_cases g : i < e.length
  · have hd : e.drop i = e[i]?.getD nd0 :: e.drop (i + 1) := by
      rw [List.drop_eq_getElem_cons g]; simp [g]
    have c := formula_operands (e[i]?.getD nd0)
    rw [hd]
    simp only [cnt]
    cases hn : opnd (e[i]?.getD nd0) with
    | none =>
      rw [opI_none hn] at c
      repeat' (first | refine wG ?_ | refine wC c ?_ | refine wR ?_ | refine wS ?_ ?_ <;> intro _ | refine finG ?_)
      all_goals simp
    | some a =>
      obtain ⟨h1, ha⟩ := opI_some hn
      rw [h1] at c
      cases o with
      | zero =>
        repeat' (first | refine wG ?_ | refine wC c ?_ | refine wR ?_ | refine wS ?_ ?_ <;> intro _ | refine finG ?_)
        all_goals simp
      | succ o =>
        repeat' (first | refine wG ?_ | refine wC c ?_ | refine wR ?_ | refine wS ?_ ?_ <;> intro _ | refine finG ?_)
        exact ⟨i + 1, o + a, ⟨by omega, by omega, rfl⟩, by omega, ⟨rfl, iv (by omega), rfl, rfl, iv (by omega), rfl⟩, rfl, trivial⟩
  · have hd : e.drop i = [] := List.drop_eq_nil_of_le (by omega)
    rw [hd]
    simp only [cnt]
    repeat' (first | refine wG ?_ | refine wC tn ?_ | refine wR ?_ | refine wS ?_ ?_ <;> intro _ | refine finG ?_)
    all_goals (refine congrArg D.bool ?_; cases o <;> simp_all <;> omega)
theorem ref_End (e : List Nd) (a : Nat) (ha : a ≤ e.length) (hl : e.length ≤ 1000) : Ret Tryd.prog 32 [ndsD e, .int .i64 a] (· = .int .i64 (endI e a 1)) := by
  refine ret_of_awp tab Tryd.func32 rfl rfl (Nat.le_of_ble_eq_true rfl) (fun w0 F0 => ?_)
  repeat' (first | refine wG ?_ | refine wR ?_ | refine wS ?_ ?_ <;> intro _ | refine finG ?_)
  refine awp_loop2 (fun (i w : Nat) => ([(0, .d (ndsD e)), (5, .d (.int .i64 w)), (6, .d (.int .i64 i))], [])) (fun i w => i ≤ e.length ∧ 1 ≤ w ∧ w ≤ 10 * i + 1 ∧ endI e i w = endI e a 1) (fun i w => e.length - i) a 1 ⟨by omega, by omega, by omega, rfl⟩ ⟨rfl, rfl, rfl, rfl⟩ trivial (fun i w hi => ?_)
  obtain ⟨hi, hw1, hw, hc⟩ := hi
  rw [← hc]
  clear hc
  by_cases g : i < e.length
  · have hd : e.drop i = e[i]?.getD nd0 :: e.drop (i + 1) := by
      rw [List.drop_eq_getElem_cons g]; simp [g]
    have c := ref_Arity (e[i]?.getD nd0).1
    have hb := arity_le (e[i]?.getD nd0).1
    have e1 := @endI_neg e i w _ hd
    have e2 := @endI_end e i w _ hd
    have e3 := @endI_step e i w _ hd
    generalize arity (e[i]?.getD nd0).1 = k at *
    clear hd
    by_cases k0 : k < 0
    · rw [e1 k0]
      repeat' (first | refine wG ?_ | refine wC c ?_ | refine wR ?_ | refine wS ?_ ?_ <;> intro _ | refine finG ?_)
      rfl
    · obtain ⟨m, rfl⟩ : ∃ m : Nat, k = m := ⟨k.toNat, by omega⟩
      by_cases k1 : w + m - 1 = 0
      · rw [e2 (by omega) k1]
        repeat' (first | refine wG ?_ | refine wC c ?_ | refine wR ?_ | refine wS ?_ ?_ <;> intro _ | refine finG ?_)
        rfl
      · have e3 := e3 (by omega) k1
        rw [Int.toNat_natCast] at e3
        rw [e3]
        repeat' (first | refine wG ?_ | refine wC c ?_ | refine wR ?_ | refine wS ?_ ?_ <;> intro _ | refine finG ?_)
        exact ⟨i + 1, w + m - 1, ⟨by omega, by omega, by omega, rfl⟩, by omega, ⟨rfl, iv (by omega), iv (by omega), rfl⟩, trivial⟩
  · rw [endI_nil (by omega)]
    repeat' (first | refine wG ?_ | refine wR ?_ | refine wS ?_ ?_ <;> intro _ | refine finG ?_)
    rfl
theorem ref_Valid (s : List UInt8) (e : List Nd) (hl : e.length ≤ 1000) : Ret Tryd.prog 18 [.agg [.str s, ndsD e]] (· = .bool (vld s e)) := by
  have tn := ref08_Name s
  have en := ref_End e 0 (Nat.zero_le _) hl
  have hv : vld s e = (isName s && (decide (endI e 0 1 = e.length) && (e.all nodeB && decide (e.length ≤ 64)))) := by
    unfold vld
    congr 1
    rw [Bool.eq_iff_iff]
    simp only [Bool.and_eq_true, decide_eq_true_eq, cnt_end, endI_iff, List.all_eq_true]
    constructor
    · exact fun h => ⟨h.1.1, h.1.2, h.2⟩
    · exact fun h => ⟨⟨h.1, h.2.1⟩, h.2.2⟩
  have h1 : endI e 0 1 = e.length → 1 ≤ e.length := by
    intro h
    have := endN_le ((endI_iff e).1 h)
    omega
  rw [hv]
  clear hv
  generalize isName s = b at *
  generalize endI e 0 1 = z at *
  by_cases h0 : b = true ∧ z = e.length ∧ e.length ≤ 64
  · obtain ⟨rfl, rfl, h64⟩ := h0
    have h1 := h1 rfl
    have hv : (true && (decide ((e.length : Int) = e.length) && (e.all nodeB && decide (e.length ≤ 64)))) = e.all nodeB := by simp [h64]
    rw [hv]
    refine ret_of_awp tab Tryd.func18 rfl rfl (Nat.le_of_ble_eq_true rfl) (fun w0 F0 => ?_)
    repeat' (first | refine wG ?_ | refine wC tn ?_ | refine wC en ?_ | refine rg 1 23 ?_ | refine wR ?_ | refine wS ?_ ?_ <;> intro _ | refine finG ?_)
    refine awp_loop1 (fun (i : Nat) => ([(1, .ptr 1 0), (3, .d (.int .i64 i))], [(1, .box 25 [.d (.str s), .d (ndsD e)])])) (fun i => i ≤ e.length ∧ (e.drop i).all nodeB = e.all nodeB) (fun i => e.length - i) 0 ⟨by omega, rfl⟩ ⟨rfl, rfl, rfl⟩ ⟨rfl, trivial⟩ (fun i hi => ?_)
    obtain ⟨hi, hc⟩ := hi
    rw [← hc]
    clear hc
    by_cases g : i < e.length
    · have hd : e.drop i = e[i]?.getD nd0 :: e.drop (i + 1) := by
        rw [List.drop_eq_getElem_cons g]; simp [g]
      have c := ref_node (e[i]?.getD nd0)
      rw [hd, List.all_cons]
      cases hb : nodeB (e[i]?.getD nd0) with
      | false =>
        rw [hb] at c
        repeat' (first | refine wG ?_ | refine wC c ?_ | refine rg 1 23 ?_ | refine wR ?_ | refine wS ?_ ?_ <;> intro _ | refine finG ?_)
        all_goals simp
      | true =>
        rw [hb] at c
        rw [Bool.true_and]
        repeat' (first | refine wG ?_ | refine wC c ?_ | refine rg 1 23 ?_ | refine wR ?_ | refine wS ?_ ?_ <;> intro _ | refine finG ?_)
        exact ⟨i + 1, ⟨by omega, rfl⟩, by omega, ⟨rfl, iv (by omega), rfl⟩, rfl, trivial⟩
    · rw [List.drop_eq_nil_of_le (by omega)]
      repeat' (first | refine wG ?_ | refine rg 1 23 ?_ | refine wR ?_ | refine wS ?_ ?_ <;> intro _ | refine finG ?_)
      all_goals simp
  · have hv : (b && (decide (z = e.length) && (e.all nodeB && decide (e.length ≤ 64)))) = false := by
      cases b <;> simp_all
    rw [hv]
    clear hv
    cases b with
    | false =>
      refine ret_of_awp tab Tryd.func18 rfl rfl (Nat.le_of_ble_eq_true rfl) (fun w0 F0 => ?_)
      repeat' (first | refine wG ?_ | refine wC tn ?_ | refine rg 1 23 ?_ | refine wR ?_ | refine wS ?_ ?_ <;> intro _ | refine finG ?_)
      rfl
    | true =>
      by_cases g1 : e.length < 1
      · refine ret_of_awp tab Tryd.func18 rfl rfl (Nat.le_of_ble_eq_true rfl) (fun w0 F0 => ?_)
        repeat' (first | refine wG ?_ | refine wC tn ?_ | refine rg 1 23 ?_ | refine wR ?_ | refine wS ?_ ?_ <;> intro _ | refine finG ?_)
        rfl
      · by_cases g2 : 64 < e.length
        · refine ret_of_awp tab Tryd.func18 rfl rfl (Nat.le_of_ble_eq_true rfl) (fun w0 F0 => ?_)
          repeat' (first | refine wG ?_ | refine wC tn ?_ | refine rg 1 23 ?_ | refine wR ?_ | refine wS ?_ ?_ <;> intro _ | refine finG ?_)
          rfl
        · have g3 : z ≠ e.length := fun q => h0 ⟨rfl, q, by omega⟩
          refine ret_of_awp tab Tryd.func18 rfl rfl (Nat.le_of_ble_eq_true rfl) (fun w0 F0 => ?_)
          repeat' (first | refine wG ?_ | refine wC tn ?_ | refine wC en ?_ | refine rg 1 23 ?_ | refine wR ?_ | refine wS ?_ ?_ <;> intro _ | refine finG ?_)
          rfl
end Go.Proofs.YtfnonogemgnlhaaDoor

/-
  Written trees: sizes. Conditions: none.
-/
namespace Go.Vw
theorem isName_len {s : List UInt8} (h : isName s = true) : 1 ≤ s.length ∧ s.length ≤ 32 := by
  unfold isName at h
  simp only [Bool.and_eq_true, decide_eq_true_eq] at h
  omega
theorem brB_len (b : Bool) (s : List UInt8) : (brB b s).length ≤ s.length + 2 := by
  unfold brB; split <;> simp
theorem sgB_len (op : Int) : (sgB op).length ≤ 3 := by
  unfold sgB; split <;> simp
theorem pr_len : ∀ (T : Ft), T.ok → T.pr.length ≤ 50 * T.flat.length
  | .leaf n, h => by
    simp only [Ft.pr, Ft.flat, leafB]
    have hp : pwB.length = 5 := rfl
    rcases h with ⟨h, h1, _⟩ | ⟨h, h1, _⟩ | ⟨h, h1, _⟩
    · rw [if_pos h]; have := isName_len h1; simp; omega
    · rw [if_neg (by omega), if_pos h]; have := isName_len h1; simp [hp]; omega
    · rw [if_neg (by omega), if_neg (by omega)]; split <;> simp
  | .un k a, h => by
    have := pr_len a h.2.2
    have h2 := brB_len (decide (rk a.op < 3)) a.pr
    simp only [Ft.pr, Ft.flat, List.length_append, List.length_cons, List.length_nil]
    omega
  | .bi op a b, h => by
    have := pr_len a h.2.2.1
    have := pr_len b h.2.2.2
    have h2 := brB_len (decide (rk a.op < rk op)) a.pr
    have h3 := brB_len (decide (rk b.op < rk op + 1)) b.pr
    have h4 := sgB_len op
    simp only [Ft.pr, Ft.flat, List.length_append, List.length_cons, List.length_nil]
    omega
theorem flat_ne (T : Ft) : 1 ≤ T.flat.length := by
  cases T <;> simp [Ft.flat]
theorem flat_head (T : Ft) {e l : List Nd} {a : Nat} (h : e.drop a = T.flat ++ l) : (e[a]?.getD nd0).1 = T.op ∧ a < e.length := by
  have h0 : e[a]? = (T.flat ++ l)[0]? := by rw [← h]; simp
  have hl : a < e.length := by
    have := congrArg List.length h
    have h1 := flat_ne T
    simp at this; omega
  refine ⟨?_, hl⟩
  rw [h0]
  cases T <;> simp [Ft.flat, Ft.op]
theorem drop_one {e l : List Nd} {a : Nat} {n : Nd} (h : e.drop a = n :: l) : e.drop (a + 1) = l := by
  rw [← List.drop_drop, h]; rfl
theorem drop_flat {e l m : List Nd} {a : Nat} (h : e.drop a = m ++ l) : e.drop (a + m.length) = l := by
  rw [← List.drop_drop, h]; simp
theorem get_head {e l : List Nd} {a : Nat} {n : Nd} (h : e.drop a = n :: l) : e[a]?.getD nd0 = n := by
  have h0 : e[a]? = (n :: l)[0]? := by rw [← h]; simp
  rw [h0]; rfl
end Go.Vw

/-
  States whose keys bear other names. Conditions: the table of types is the program's.
-/
set_option linter.unusedSectionVars false
namespace Go.Vw
open Go.RowKit
def St.ren (σ τ : Nat → Nat) (s : St) : St := { tmps := fun t => (s.tmps t).ren σ, blk := renO σ τ s.blk, dfs := [] }
theorem SR.ren {X : Ctx} {io : Nat → Option Nat} {F : Nat → Prop} {s : St} {a : Act} {w : World} (hs : SR X io F s a w) (hd : s.dfs = []) {σ τ : Nat → Nat} (h1 : ∀ k, σ (τ k) = k) (h2 : ∀ k, τ (σ k) = k) (hK : ∀ k ∈ X.K, τ k = k) : SR X (fun k => io (τ k)) F (s.ren σ τ) a w := by
  have hne : ∀ k, (s.ren σ τ).blk k ≠ none → s.blk (τ k) ≠ none := fun k h => by
    intro e
    exact h (by simp only [St.ren, renO, e, Option.map_none])
  have hln : ∀ k, (s.ren σ τ).ln k = s.ln (τ k) := fun k => by
    cases h : s.blk (τ k) with
    | none =>
      have : (s.ren σ τ).blk k = none := by simp only [St.ren, renO, h, Option.map_none]
      unfold St.ln
      rw [this, h]
    | some b =>
      have : (s.ren σ τ).blk k = some (b.ren σ) := by simp only [St.ren, renO, h, Option.map_some]
      rw [ln_of this, ln_of h, Blk.ren_ln]
  have hkeys : (⟨fun k => ((s.ren σ τ).keys fun k => io (τ k)).io (σ k), fun k => ((s.ren σ τ).keys fun k => io (τ k)).ln (σ k)⟩ : Keys) = s.keys io := by
    show (⟨fun k => io (τ (σ k)), fun k => (s.ren σ τ).ln (σ k)⟩ : Keys) = ⟨io, s.ln⟩
    congr 1
    · funext k; rw [h2]
    · funext k; rw [hln, h2]
  refine ⟨hs.kept, fun t => ?_, hs.nt, ?_, fun k b hk => ?_, fun k k' b e1 e2 e3 e4 => ?_, hs.ff, hs.f0, fun k hk => ?_⟩
  · refine (VR.ren (io := (s.ren σ τ).keys fun k => io (τ k)) (s.tmps t) _).1 ?_
    rw [hkeys]
    exact hs.tm t
  · have := hs.df
    rw [hd] at this
    exact this
  · simp only [St.ren, renO, Option.map_eq_some_iff] at hk
    obtain ⟨b0, e0, rfl⟩ := hk
    have := hs.bl (τ k) b0 e0
    rw [← hkeys] at this
    have := BR.ren (io := (s.ren σ τ).keys fun k => io (τ k)).1 this
    rwa [h1] at this
  · have := hs.inj (τ k) (τ k') b (hne k e1) (hne k' e2) e3 e4
    have := congrArg σ this
    rwa [h1, h1] at this
  · show io (τ k) = X.io0 k
    rw [hK k hk]
    exact hs.st k hk
def renT (σ : Nat → Nat) : List (Nat × V) → List (Nat × V)
  | [] => []
  | (k, v) :: r => (k, v.ren σ) :: renT σ r
theorem lookT_ren (σ : Nat → Nat) : ∀ (l : List (Nat × V)) (t : Nat), (lookT l t).ren σ = lookT (renT σ l) t
  | [], t => rfl
  | (k, v) :: r, t => by
    simp only [lookT, renT]
    cases Nat.beq t k with
    | true => rfl
    | false => simpa using lookT_ren σ r t
theorem perm_notin : ∀ (l : List (Nat × Nat)) (k : Nat), (l.all fun p => !(Nat.beq k p.1) && !(Nat.beq k p.2)) = true → permI l k = k
  | [], k, _ => rfl
  | (a, b) :: r, k, h => by
    simp only [List.all_cons, Bool.and_eq_true, Bool.not_eq_true'] at h
    simp only [permI]
    rw [perm_notin r k (by simpa using h.2)]
    unfold swp
    rw [h.1.1, h.1.2]
    rfl
theorem awp_rekey {X : Ctx} {c : Code} {Q : Exit → St → Prop} {ts : List (Nat × V)} {bs : List (Nat × Blk)} (l : List (Nat × Nat)) {ts2 : List (Nat × V)} {bs2 : List (Nat × Blk)} (h : awp X c Q (St.of ts2 bs2)) (hK : (X.K.all fun k => l.all fun p => !(Nat.beq k p.1) && !(Nat.beq k p.2)) = true := by rfl) (e1 : renT (perm l) ts = ts2 := by rfl) (e2 : renB (perm l) bs = bs2 := by rfl) : awp X c Q (St.of ts bs) := fun io F a w hs => by
  subst e1 e2
  have := hs.ren rfl (perm_permI l) (permI_perm l) (fun k hk => perm_notin l k (by
    simp only [List.all_eq_true] at hK
    have := hK k hk
    simpa only [List.all_eq_true] using this))
  have e : (St.of ts bs).ren (perm l) (permI l) = St.of (renT (perm l) ts) (renB (perm l) bs) := by
    unfold St.ren St.of
    congr 1
    · funext t; exact lookT_ren _ _ _
    · exact lookB_ren (perm_permI l) (permI_perm l) bs
  rw [e] at this
  exact h _ F a w this
theorem awp_rename {X : Ctx} {c : Code} {Q : Exit → St → Prop} {s : St} (ts : List (Nat × V)) (bs : List (Nat × Blk)) (l : List (Nat × Nat)) (ht : AllT s ts) (hb : AllB s bs) {ts2 : List (Nat × V)} {bs2 : List (Nat × Blk)} (h : awp X c Q (St.of ts2 bs2)) (hK : (X.K.all fun k => l.all fun p => !(Nat.beq k p.1) && !(Nat.beq k p.2)) = true := by rfl) (e1 : renT (perm l) ts = ts2 := by rfl) (e2 : renB (perm l) bs = bs2 := by rfl) (hc : (coverT bs ts && coverB bs bs) = true := by rfl) : awp X c Q s :=
  awp_slots ts bs ht hb (awp_rekey l h hK e1 e2) hc
end Go.Vw

/-
  Drawn regions by the sets of operations that have been carried out; lists that are appended to beside other work. Conditions: the table of types is the program's.
-/
namespace Go.Vw
open Go.RowKit
def insL (L : Nat → Bool) (i : Nat) : Nat → Bool := fun j => bif Nat.beq j i then true else L j
theorem awp_region_gen {X : Ctx} (hm : X.P.follows .mixedOrders = true) {id : Nat} {ops : List Oper} (n : Nat) (tf : TailFacts ops.toArray n) (A : (Nat → Bool) → St) {Q : Exit → St → Prop} {s s1 : St} (h0 : A (fun _ => false) = s) (h1 : ∀ L, (∀ j, j < n → L j = true) → (∀ j, L j = true → j < n) → A L = s1)
    (step : ∀ (L : Nat → Bool) (i : Nat) (o : Oper), i < n → ops.toArray[i]? = some o → L i = false → (∀ j, L j = true → j < n) → (∀ j, j < i → ((masks ops.toArray.toList []).getD i 0).testBit j = true → L j = true) → (∀ j, L j = true → ∀ k, ((masks ops.toArray.toList []).getD j 0).testBit k = true → L k = true) → E1 X ops.toArray (A L) o (A (insL L i)))
    (htail : awpL X ops.toArray (ops.drop n) Q s1) : awp X (.region id ops.toArray true) Q s := by
  intro io F0 a0 w0 hs
  refine wp_region_any hm ?_
  have hle := tf.le
  have hsz : ops.toArray.size = ops.length := rfl
  have getn : ∀ j, j < n → ∃ o, ops.toArray[j]? = some o := fun j hj => ⟨_, Array.getElem?_eq_getElem (by omega)⟩
  have key : ∀ (u fuel : Nat) (listed : Array Bool) (io : Nat → Option Nat) (F : Nat → Prop) (a : Act) (w : World), (List.range n).countP (fun j => !listed.getD j false) ≤ u → u + (ops.toArray.size - n) ≤ fuel → listed.size = ops.toArray.size →
      (∀ j, listed.getD j false = true → j < n) → (∀ i o, ops.toArray[i]? = some o → listed.getD i false = true → ∀ e ∈ o.after, Region.binds .any e = true → listed.getD e.on false = true) →
      SR X io F (A (fun j => listed.getD j false)) a w → wpAny X.P .any ops.toArray (lift X Q) fuel listed a w := by
    intro u
    induction u with
    | zero =>
      intro fuel listed io F a w hu hfu hsize htl hcl hsr
      have hall : ∀ j, j < n → listed.getD j false = true := fun j hj => by
        have := List.countP_eq_zero.1 (Nat.le_zero.1 hu) j (by simpa using hj)
        simpa using this
      refine wpAny_tail tf (ops.toArray.size - n) n fuel listed a w (Nat.le_refl _) (by omega) (by omega) hsize (fun j => ⟨htl j, hall j⟩) ?_
      rw [h1 _ hall htl] at hsr
      exact htail _ _ _ _ hsr
    | succ u ih =>
      intro fuel listed io F a w hu hfu hsize htl hcl hsr
      by_cases hall : ∀ j, j < n → listed.getD j false = true
      · have h0 : (List.range n).countP (fun j => !listed.getD j false) = 0 := List.countP_eq_zero.2 fun j hj => by simp only [List.mem_range] at hj; simp [hall j hj]
        exact ih fuel listed io F a w (by omega) (by omega) hsize htl hcl hsr
      · have hex : ∃ j, j < n ∧ listed.getD j false ≠ true ∧ ∀ k, k < j → listed.getD k false = true := by
          have : ∃ j, j < n ∧ listed.getD j false ≠ true := by
            rcases Classical.em (∃ j, j < n ∧ listed.getD j false ≠ true) with h | h
            · exact h
            · exact absurd (fun j hj => Classical.byContradiction fun hne => h ⟨j, hj, hne⟩) hall
          obtain ⟨j, hj⟩ := this
          induction j using Nat.strongRecOn with
          | _ j ihj =>
            by_cases hk : ∃ k, k < j ∧ listed.getD k false ≠ true
            · obtain ⟨k, hk1, hk2⟩ := hk
              exact ihj k hk1 ⟨by omega, hk2⟩
            · exact ⟨j, hj.1, hj.2, fun k hk1 => Classical.byContradiction fun h => hk ⟨k, hk1, h⟩⟩
        obtain ⟨j0, hj0, hnl, hless⟩ := hex
        cases fuel with
        | zero => omega
        | succ fuel =>
          obtain ⟨o0, ho0⟩ := getn j0 hj0
          have hready0 : j0 ∈ Region.ready .any ops.toArray listed := mem_ready.2 ⟨by
              simp [show j0 < listed.size by omega] at hnl ⊢
              exact hnl, o0, ho0, fun e he hb => hless _ (tf.back j0 o0 ho0 e he hb)⟩
          refine ⟨fun hnil => (by rw [hnil] at hready0; cases hready0), fun i hi => ?_⟩
          obtain ⟨h0, o, ho, hpre⟩ := mem_ready.1 hi
          have hilt := (Array.getElem?_eq_some_iff.1 ho).1
          have hspec : ∀ j, ((masks ops.toArray.toList []).getD i 0).testBit j = true → listed.getD j false = true ∨ j = i := fun j hbit =>
            masks_spec (fun j => listed.getD j false = true ∨ j = i) ops.toArray.toList [] 0 rfl (fun i h => by simp at h) (fun k' o' h1 h2 e he hb => by
              rcases h2 with h2 | h2
              · left; exact hcl k' o' (by simpa using h1) (by simpa using h2) e he hb
              · left
                simp only [Nat.zero_add] at h2
                subst h2
                have : o' = o := by
                  have h1' : ops.toArray[k']? = some o' := by simpa using h1
                  rw [ho] at h1'; cases h1'; rfl
                subst this
                exact hpre e he hb) (fun k' o' h1 e he hb => by simpa using tf.back k' o' (by simpa using h1) e he hb) i (.inr rfl) j hbit
          have hin : i < n := by
            rcases Nat.lt_or_ge i n with h' | h'
            · exact h'
            · rcases hspec j0 (tf.tail i h' hilt j0 (by omega)) with h | h
              · exact absurd h hnl
              · omega
          have hclm : ∀ j, listed.getD j false = true → ∀ k, ((masks ops.toArray.toList []).getD j 0).testBit k = true → listed.getD k false = true := fun j hj k hk =>
            masks_spec (fun j => listed.getD j false = true) ops.toArray.toList [] 0 rfl (fun i h => by simp at h) (fun k' o' h1 h2 e he hb => hcl k' o' (by simpa using h1) (by simpa using h2) e he hb) (fun k' o' h1 e he hb => by simpa using tf.back k' o' (by simpa using h1) e he hb) j hj k hk
          have hunl : listed.getD i false = false := by
            simp [show i < listed.size by omega] at h0 ⊢
            exact h0
          have hs2 := step (fun j => listed.getD j false) i o hin ho hunl htl (fun j hji hbit => by
            rcases hspec j hbit with h | h
            · exact h
            · omega) hclm io F a w hsr (wpAny X.P .any ops.toArray (lift X Q) fuel (listed.setIfInBounds i true)) (lift X Q) fun io' F' a' w' hs' => by
            have hins : A (insL (fun j => listed.getD j false) i) = A (fun j => (listed.setIfInBounds i true).getD j false) := by
              congr 1
              funext j
              unfold insL
              by_cases e : j = i
              · subst e; simp [getD_set_self (show j < listed.size by omega)]
              · rw [getD_set_ne false (Ne.symm e)]; simp [e]
            rw [hins] at hs'
            refine ih fuel _ io' F' a' w' ?_ (by omega) (by simpa using hsize) (fun j hj => ?_) (fun k ok hk hlk e he hb => ?_) hs'
            · have := countP_lt (p := fun j => !listed.getD j false) (q := fun j => !(listed.setIfInBounds i true).getD j false) (i := i) (by simp [hunl]) (by simp [getD_set_self (show i < listed.size by omega)]) (fun j hj => by
                by_cases e : j = i
                · subst e; simp [hunl]
                · rw [getD_set_ne false (Ne.symm e)] at hj; exact hj) (l := List.range n) (by simpa using hin)
              omega
            · by_cases e : j = i
              · rw [e]; exact hin
              · rw [getD_set_ne false (Ne.symm e)] at hj; exact htl j hj
            · by_cases e' : k = i
              · subst e'
                rw [ho] at hk; cases hk
                exact getD_set_true (hpre e he hb)
              · rw [getD_set_ne false (Ne.symm e')] at hlk
                exact getD_set_true (hcl k ok hk hlk e he hb)
          unfold wpOp
          simp only [ho]
          exact hs2
  have hdr : SR X io F0 (A (fun j => (Array.replicate ops.toArray.size false).getD j false)) a0 w0.drew := by
    have e : (fun j => (Array.replicate ops.toArray.size false).getD j false) = fun _ => false := by
      funext j
      simp only [Array.getD_eq_getD_getElem?, Array.getElem?_replicate]
      split <;> rfl
    rw [e, h0]
    exact hs.drew
  refine key n ops.toArray.size _ io F0 a0 w0.drew ?_ (by omega) (by simp) (fun j hj => ?_) (fun i o ho hl => ?_) hdr
  · exact Nat.le_trans List.countP_le_length (by simp)
  · simp only [Array.getD_eq_getD_getElem?, Array.getElem?_replicate] at hj
    split at hj <;> simp at hj
  · simp only [Array.getD_eq_getD_getElem?, Array.getElem?_replicate] at hl
    split at hl <;> simp at hl

/-! ## Appends -/

def isApp (o : Oper) : Bool := match o.op with | .call c => (match c.callee with | .builtin .append => true | _ => false) | _ => false
def conflA (all : Array Oper) (a b : Oper) : Bool := looksB all b a.dst || looksB all a b.dst || (match a.dst, b.dst with | some x, some y => x == y | _, _ => false) || (isApp a && isApp b)
structure OrdA (ops : Array Oper) (n : Nat) : Prop where
  tf : TailFacts ops n
  ord : ∀ i j a b, i < j → j < n → ops[i]? = some a → ops[j]? = some b → conflA ops a b = true → ((masks ops.toList []).getD j 0).testBit i = true
  reg : ∀ i j a b, i < n → j < n → ops[i]? = some a → ops[j]? = some b → isApp a = true → isApp b = false → looksB ops b a.dst = false
inductive UpdA : Type 1 where
  | reg (d : Option Tmp) (x : V)
  | app (d : Tmp) (x : V) (k : Nat) (b : Blk)
def UpdA.dst : UpdA → Option Tmp
  | .reg d _ => d
  | .app d _ _ _ => some d
def UpdA.isApp : UpdA → Bool
  | .reg _ _ => false
  | .app _ _ _ _ => true
theorem new_tmps {s : St} {k : Nat} {b : Blk} (t : Nat) : (s.new k b).tmps t = (s.tmps t).sub k none := rfl
theorem new_dfs {s : St} {k : Nat} {b : Blk} (h : s.dfs = []) : (s.new k b).dfs = [] := by
  show dfSub k none s.dfs = []
  rw [h]; rfl
theorem put_tmps {s : St} {d : Tmp} {x : V} (t : Nat) : (s.put (some d) x).tmps t = if t = d then x else s.tmps t := by
  simp only [St.put]
  by_cases h : t = d
  · subst h; simp
  · rw [if_neg h, beq_of_ne h]; rfl
theorem new_put {s : St} {d : Option Tmp} {x : V} {k : Nat} {b : Blk} (h : x.noKey k = true) : (s.put d x).new k b = (s.new k b).put d x := by
  cases d with
  | none => rfl
  | some d =>
    refine St.eta (funext fun t => ?_) rfl rfl
    rw [new_tmps, put_tmps, put_tmps, new_tmps]
    split
    · exact V.sub_noKey _ h
    · rfl
theorem put_comm {s : St} {d d' : Option Tmp} {x x' : V} (h : ∀ t, d = some t → d' ≠ some t) : (s.put d x).put d' x' = (s.put d' x').put d x := by
  cases d with
  | none => rfl
  | some d => cases d' with
    | none => rfl
    | some d' =>
      refine St.eta (funext fun t => ?_) rfl rfl
      simp only [put_tmps]
      by_cases h1 : t = d
      · subst h1
        rw [if_pos rfl, if_pos rfl, if_neg (fun e => h t rfl (by rw [e]))]
      · by_cases h2 : t = d'
        · subst h2; rw [if_pos rfl, if_neg h1, if_pos rfl]
        · rw [if_neg h2, if_neg h1, if_neg h1, if_neg h2]
inductive PRunA (X : Ctx) (all : Array Oper) (ks : List Nat) : List Oper → St → St → Prop
  | nil {s : St} : PRunA X all ks [] s s
  | reg {o : Oper} {rest : List Oper} {s s' : St} {x : V} (hd : dstOk X.N o.dst = true) (h : ∀ s' : St, (∀ t ∈ o.looksAt all, s'.tmps t = s.tmps t) → M1 X all s' o x) (hna : isApp o = false) (hx : (ks.all fun k => x.noKey k) = true) (k : PRunA X all ks rest (s.put o.dst x) s') : PRunA X all ks (o :: rest) s s'
  | app {o : Oper} {rest : List Oper} {s s' : St} {d : Tmp} {x : V} {k : Nat} {b : Blk} (ha : isApp o = true) (hd : o.dst = some d) (hk : ks.contains k = true) (h : ∀ s' : St, s'.blk = s.blk → (∀ t ∈ o.looksAt all, s'.tmps t = s.tmps t) → E1 X all s' o ((s'.new k b).put (some d) x)) (kk : PRunA X all ks rest ((s.new k b).put (some d) x) s') : PRunA X all ks (o :: rest) s s'
inductive UpdOkA (X : Ctx) (all : Array Oper) (ks : List Nat) (s : St) (o : Oper) : UpdA → Prop
  | reg {x : V} (hd : dstOk X.N o.dst = true) (h : ∀ s' : St, (∀ t ∈ o.looksAt all, s'.tmps t = s.tmps t) → M1 X all s' o x) (hna : isApp o = false) (hx : (ks.all fun k => x.noKey k) = true) : UpdOkA X all ks s o (.reg o.dst x)
  | app {d : Tmp} {x : V} {k : Nat} {b : Blk} (ha : isApp o = true) (hd : o.dst = some d) (hk : ks.contains k = true) (h : ∀ s' : St, s'.blk = s.blk → (∀ t ∈ o.looksAt all, s'.tmps t = s.tmps t) → E1 X all s' o ((s'.new k b).put (some d) x)) : UpdOkA X all ks s o (.app d x k b)
def isSl (o : Oper) : Bool := match o.op with | .slice .. => true | _ => false
section
variable {X : Ctx} {all : Array Oper} {Q : Exit → St → Prop} {s : St} {o : Oper} {pre rest : List Oper} {ks : List Nat}
theorem optI_agree {s' : St} {y : Option Operand} (h : ∀ z, y = some z → s'.opd z = s.opd z) : optI s' y = optI s y := by
  cases y with
  | none => rfl
  | some z => simp only [optI, h z rfl]
theorem evalQ_slice {T : TypeId → Option TyD} {m : Bool} {s' : St} (hm : isSl o = true) (h : ∀ t ∈ o.looksAt all, s'.tmps t = s.tmps t) : evalQ T m s' o.op = evalQ T m s o.op := by
  have hop := fun y hy => opd_agree (s := s) (s' := s') (o := o) (all := all) (y := y) hy h
  unfold isSl at hm
  split at hm
  · rename_i t x lo hi mx e
    rw [e] at hop ⊢
    have h1 := hop x (by simp [Op.operands])
    have h2 : optI s' lo = optI s lo := optI_agree fun z hz => hop z (by subst hz; simp [Op.operands])
    have h3 : optI s' hi = optI s hi := optI_agree fun z hz => hop z (by subst hz; simp [Op.operands])
    have h4 : optI s' mx = optI s mx := optI_agree fun z hz => hop z (by subst hz; simp [Op.operands])
    simp only [evalQ, h1, h2, h3, h4]
  · cases hm
theorem callee_agree {s' : St} {c : Call} (hop : o.op = .call c) (h : ∀ t ∈ o.looksAt all, s'.tmps t = s.tmps t) : calleeOf s' c = calleeOf s c ∧ c.args.toList.map s'.opd = c.args.toList.map s.opd := by
  have ho := fun y hy => opd_agree (s := s) (s' := s') (o := o) (all := all) (y := y) hy h
  rw [hop] at ho
  constructor
  · unfold calleeOf
    cases hc : c.callee with
    | value y =>
      have := ho y (by simp only [Op.operands, Call.operands, hc]; simp)
      simp only [this]
    | _ => rfl
  · exact List.map_congr_left fun y hy => ho y (by simp only [Op.operands, Call.operands]; simp; right; simpa using hy)
end

end Go.Vw

/-
  Drawn regions with one call that is lent blocks of the call's own. Conditions: the table of types is the program's.
-/
namespace Go.Vw
open Go.RowKit
inductive UpdB : Type 1 where
  | reg (d : Option Tmp) (x : V)
  | call (d : Tmp) (x : V) (bs : List (Nat × Blk))
def UpdB.dst : UpdB → Option Tmp
  | .reg d _ => d
  | .call d _ _ => some d
def UpdB.isC : UpdB → Bool
  | .reg _ _ => false
  | .call _ _ _ => true
def apB (s : St) : UpdB → St
  | .reg d x => s.put d x
  | .call d x bs => (s.over bs).put (some d) x
def accB (s : St) (us : Nat → UpdB) (L : Nat → Bool) : Nat → St
  | 0 => s
  | n + 1 => bif L n then apB (accB s us L n) (us n) else accB s us L n
theorem put_over {s : St} {d : Option Tmp} {x : V} {bs : List (Nat × Blk)} : (s.put d x).over bs = (s.over bs).put d x := by cases d <;> rfl
theorem put_ne {s : St} {d : Option Tmp} {x : V} {t : Tmp} (h : d ≠ some t) : (s.put d x).tmps t = s.tmps t := by
  cases d with
  | none => rfl
  | some d => rw [put_tmps, if_neg (fun e => h (by rw [e]))]
theorem put_eq {s s' : St} {d : Option Tmp} {x : V} {t : Tmp} (h : d = some t) : (s.put d x).tmps t = (s'.put d x).tmps t := by
  subst h; rw [put_tmps, put_tmps, if_pos rfl, if_pos rfl]
theorem accB_tmps {s : St} {us : Nat → UpdB} {L L' : Nat → Bool} {t : Nat} : ∀ n, (∀ i, i < n → (us i).dst = some t → L i = L' i) → (accB s us L n).tmps t = (accB s us L' n).tmps t
  | 0, _ => rfl
  | n + 1, h => by
    have ih := accB_tmps (s := s) (L := L) (L' := L') (t := t) n fun i hi => h i (by omega)
    have ne : ∀ s0, (us n).dst ≠ some t → (apB s0 (us n)).tmps t = s0.tmps t := fun s0 hne => by
      cases hu : us n with
      | reg d x => rw [hu] at hne; exact put_ne hne
      | call d x bs => rw [hu] at hne; exact put_ne (d := some d) hne
    have eq : ∀ s0 s1, (us n).dst = some t → (apB s0 (us n)).tmps t = (apB s1 (us n)).tmps t := fun s0 s1 he => by
      cases hu : us n with
      | reg d x => rw [hu] at he; exact put_eq he
      | call d x bs => rw [hu] at he; exact put_eq (d := some d) he
    simp only [accB]
    by_cases hd : (us n).dst = some t
    · rw [h n (by omega) hd]
      cases L' n with
      | true => exact eq _ _ hd
      | false => exact ih
    · have e : ∀ (b : Bool) (s0 : St), (bif b then apB s0 (us n) else s0).tmps t = s0.tmps t := fun b s0 => by
        cases b with
        | true => exact ne s0 hd
        | false => rfl
      rw [e, e, ih]
theorem accB_blk {s : St} {us : Nat → UpdB} {L L' : Nat → Bool} : ∀ n, (∀ i, i < n → (us i).isC = true → L i = L' i) → (accB s us L n).blk = (accB s us L' n).blk
  | 0, _ => rfl
  | n + 1, h => by
    have ih := accB_blk (s := s) (L := L) (L' := L') n fun i hi => h i (by omega)
    simp only [accB]
    cases hu : us n with
    | reg d x =>
      have e : ∀ (b : Bool) (s0 : St), (bif b then apB s0 (.reg d x) else s0).blk = s0.blk := fun b s0 => by cases b <;> simp [apB, put_blk]
      rw [e, e, ih]
    | call d x bs =>
      rw [h n (by omega) (by rw [hu]; rfl)]
      cases L' n with
      | true =>
        simp only [cond_true, apB, put_blk]
        unfold St.over
        simp only [ih]
      | false => exact ih
theorem accB_out {s : St} {us : Nat → UpdB} {L : Nat → Bool} {k : Nat} : ∀ n, (∀ i, i < n → ∀ d x bs, us i = .call d x bs → lookB bs k = none) → (accB s us L n).blk k = s.blk k
  | 0, _ => rfl
  | n + 1, h => by
    have ih := accB_out (s := s) (L := L) (k := k) n fun i hi => h i (by omega)
    simp only [accB]
    cases L n with
    | false => exact ih
    | true =>
      simp only [cond_true]
      cases hu : us n with
      | reg d x => simp only [apB, put_blk]; exact ih
      | call d x bs =>
        simp only [apB, put_blk]
        have := h n (by omega) d x bs hu
        unfold St.over
        simp only [this]
        exact ih
theorem accB_insert {s : St} {us : Nat → UpdB} {L : Nat → Bool} {i : Nat} (hL : L i = false) : ∀ n, i < n → (∀ j, i < j → j < n → L j = true → ∀ s0, apB (apB s0 (us i)) (us j) = apB (apB s0 (us j)) (us i)) → accB s us (insL L i) n = apB (accB s us L n) (us i)
  | 0, h, _ => by omega
  | n + 1, h, hc => by
    have same : ∀ j, j ≠ i → insL L i j = L j := fun j hj => by unfold insL; rw [beq_of_ne hj]; rfl
    have hi : insL L i i = true := by unfold insL; simp
    simp only [accB]
    by_cases e : i = n
    · subst e
      have h2 : accB s us (insL L i) i = accB s us L i := by
        have : ∀ m, m ≤ i → accB s us (insL L i) m = accB s us L m := by
          intro m
          induction m with
          | zero => intro _; rfl
          | succ m ih => intro hm; simp only [accB]; rw [ih (by omega), same m (by omega)]
        exact this i (Nat.le_refl _)
      rw [hi, hL, h2]; rfl
    · rw [accB_insert hL n (by omega) (fun j h1 h2 => hc j h1 (by omega)), same n (Ne.symm e)]
      cases hn : L n with
      | true => simp only [cond_true]; exact hc n (by omega) (by omega) hn _
      | false => rfl
theorem accB_congr {s : St} {us : Nat → UpdB} {L L' : Nat → Bool} : ∀ m, (∀ j, j < m → L j = L' j) → accB s us L m = accB s us L' m
  | 0, _ => rfl
  | m + 1, h => by simp only [accB]; rw [accB_congr m (fun j hj => h j (by omega)), h m (by omega)]

def conflB (all : Array Oper) (a b : Oper) : Bool := looksB all b a.dst || looksB all a b.dst || (match a.dst, b.dst with | some x, some y => x == y | _, _ => false)
def ordB (ops : Array Oper) (n : Nat) : Bool :=
  backward ops && Nat.ble n ops.size &&
  ((List.range n).all fun j => match ops[j]? with
    | some b => (List.range j).all fun i => match ops[i]? with
      | some a => !(conflB ops a b) || ((masks ops.toList []).getD j 0).testBit i
      | none => false
    | none => false) &&
  ((List.range ops.size).all fun i => Nat.blt i n || Nat.beq ((masks ops.toList []).getD i 0) (2 ^ i - 1))
structure OrdB (ops : Array Oper) (n : Nat) : Prop where
  tf : TailFacts ops n
  ord : ∀ i j a b, i < j → j < n → ops[i]? = some a → ops[j]? = some b → conflB ops a b = true → ((masks ops.toList []).getD j 0).testBit i = true
theorem ordB_spec {ops : Array Oper} {n : Nat} (h : ordB ops n = true) : OrdB ops n := by
  simp only [ordB, Bool.and_eq_true] at h
  obtain ⟨⟨⟨hb, hle⟩, hm⟩, ht⟩ := h
  refine ⟨⟨fun i o hi e he hbind => ?_, Nat.le_of_ble_eq_true hle, fun i h1 h2 j hj => ?_⟩, fun i j a b hij hj ha hb' hc => ?_⟩
  · simp only [backward, List.all_eq_true, List.mem_range] at hb
    have := hb i (Array.getElem?_eq_some_iff.1 hi).1
    rw [hi] at this
    simp only [List.all_eq_true] at this
    have := this e (by simpa using he)
    rw [hbind] at this
    simpa [Nat.blt_eq] using this
  · simp only [List.all_eq_true, List.mem_range] at ht
    have h3 := ht i h2
    have hnb : Nat.blt i n = false := by
      cases hq : Nat.blt i n with
      | false => rfl
      | true => have : i < n := by simpa [Nat.blt_eq] using hq
                omega
    rw [hnb, Bool.false_or] at h3
    have h4 := Nat.eq_of_beq_eq_true h3
    rw [h4, Nat.testBit_two_pow_sub_one]
    simpa using hj
  · simp only [List.all_eq_true, List.mem_range] at hm
    have h1 := hm j hj
    rw [hb'] at h1
    simp only [List.all_eq_true, List.mem_range] at h1
    have h2 := h1 i hij
    rw [ha] at h2
    simp only [hc, Bool.not_true, Bool.false_or] at h2
    exact h2

inductive PRunB (X : Ctx) (all : Array Oper) (kk : List Nat) (c : Nat) : Nat → List Oper → St → St → Prop
  | nil {m : Nat} {s : St} : PRunB X all kk c m [] s s
  | reg {m : Nat} {o : Oper} {rest : List Oper} {s s' : St} {x : V} (hmc : m ≠ c) (hd : dstOk X.N o.dst = true) (h : ∀ s' : St, (∀ t ∈ o.looksAt all, s'.tmps t = s.tmps t) → (∀ k, kk.contains k = false → s'.blk k = s.blk k) → M1 X all s' o x) (k : PRunB X all kk c (m + 1) rest (s.put o.dst x) s') : PRunB X all kk c m (o :: rest) s s'
  | call {m : Nat} {o : Oper} {rest : List Oper} {s s' : St} {d : Tmp} {x : V} {bs : List (Nat × Blk)} (hmc : m = c) (hd : o.dst = some d) (hk : ∀ k, kk.contains k = false → lookB bs k = none) (h : ∀ s' : St, s'.blk = s.blk → (∀ t ∈ o.looksAt all, s'.tmps t = s.tmps t) → E1 X all s' o ((s'.over bs).put (some d) x)) (k : PRunB X all kk c (m + 1) rest ((s.over bs).put (some d) x) s') : PRunB X all kk c m (o :: rest) s s'
inductive UpdOkB (X : Ctx) (all : Array Oper) (kk : List Nat) (c m : Nat) (s : St) (o : Oper) : UpdB → Prop
  | reg {x : V} (hmc : m ≠ c) (hd : dstOk X.N o.dst = true) (h : ∀ s' : St, (∀ t ∈ o.looksAt all, s'.tmps t = s.tmps t) → (∀ k, kk.contains k = false → s'.blk k = s.blk k) → M1 X all s' o x) : UpdOkB X all kk c m s o (.reg o.dst x)
  | call {d : Tmp} {x : V} {bs : List (Nat × Blk)} (hmc : m = c) (hd : o.dst = some d) (hk : ∀ k, kk.contains k = false → lookB bs k = none) (h : ∀ s' : St, s'.blk = s.blk → (∀ t ∈ o.looksAt all, s'.tmps t = s.tmps t) → E1 X all s' o ((s'.over bs).put (some d) x)) : UpdOkB X all kk c m s o (.call d x bs)
theorem prunB_us {X : Ctx} {all : Array Oper} {kk : List Nat} {c : Nat} : ∀ {l : List Oper} {m : Nat} {s s' : St}, PRunB X all kk c m l s s' → ∃ us : Nat → UpdB, s' = accB s us (fun _ => true) l.length ∧ ∀ i o, l[i]? = some o → UpdOkB X all kk c (m + i) (accB s us (fun _ => true) i) o (us i)
  | [], m, s, s', h => by
    cases h
    exact ⟨fun _ => .reg none (.d .undef), rfl, fun i o h => by simp at h⟩
  | o :: rest, m, s, s', h => by
    have shift : ∀ (u0 : UpdB) (us : Nat → UpdB) (m : Nat) (s0 : St), accB s0 (fun i => match i with | 0 => u0 | i + 1 => us i) (fun _ => true) (m + 1) = accB (apB s0 u0) us (fun _ => true) m := fun u0 us m s0 => by
      induction m with
      | zero => rfl
      | succ m ih => rw [accB, ih]; rfl
    have fin : ∀ (u0 : UpdB), UpdOkB X all kk c m s o u0 → PRunB X all kk c (m + 1) rest (apB s u0) s' → ∃ us : Nat → UpdB, s' = accB s us (fun _ => true) (o :: rest).length ∧ ∀ i o', (o :: rest)[i]? = some o' → UpdOkB X all kk c (m + i) (accB s us (fun _ => true) i) o' (us i) := fun u0 h0 hk => by
      obtain ⟨us, h1, h2⟩ := prunB_us hk
      refine ⟨fun i => match i with | 0 => u0 | i + 1 => us i, ?_, fun i o' hi => ?_⟩
      · rw [List.length_cons, shift, h1]
      · cases i with
        | zero => simp at hi; subst hi; exact h0
        | succ i => rw [shift, show m + (i + 1) = m + 1 + i by omega]; exact h2 i o' (by simpa using hi)
    cases h with
    | reg hmc hd hm hk => exact fin _ (.reg hmc hd hm) hk
    | call hmc hd hk hm kk => exact fin _ (.call hmc hd hk hm) kk

theorem awp_region_call {X : Ctx} (hm : X.P.follows .mixedOrders = true) {id : Nat} {ops : List Oper} (n c : Nat) (kk : List Nat) (hok : ordB ops.toArray n = true) {Q : Exit → St → Prop} {s s1 : St} (hrun : PRunB X ops.toArray kk c 0 (ops.take n) s s1) (htail : awpL X ops.toArray (ops.drop n) Q s1) : awp X (.region id ops.toArray true) Q s := by
  have hf := ordB_spec hok
  obtain ⟨us, hs1, hx⟩ := prunB_us hrun
  have hle := hf.tf.le
  have hsz : ops.toArray.size = ops.length := rfl
  have getop : ∀ i, i < n → (ops.take n)[i]? = ops.toArray[i]? := fun i hi => by simp [List.getElem?_take, hi]
  have hlen : (ops.take n).length = n := by simp; omega
  rw [hlen] at hs1
  have ok : ∀ i o, i < n → ops.toArray[i]? = some o → UpdOkB X ops.toArray kk c i (accB s us (fun _ => true) i) o (us i) := fun i o hi ho => by
    have := hx i o (by rw [getop i hi]; exact ho)
    rwa [Nat.zero_add] at this
  have getn : ∀ j, j < n → ∃ o, ops.toArray[j]? = some o := fun j hj => ⟨_, Array.getElem?_eq_getElem (by omega)⟩
  have dstOf : ∀ i o, i < n → ops.toArray[i]? = some o → (us i).dst = o.dst := fun i o hi ho => by
    have := ok i o hi ho
    generalize us i = u at this
    cases this with
    | reg _ _ _ => rfl
    | call _ hd => exact hd.symm
  have isc : ∀ i, i < n → (us i).isC = true → i = c := fun i hi hu => by
    obtain ⟨o, ho⟩ := getn i hi
    have := ok i o hi ho
    generalize us i = u at this hu
    cases this with
    | reg _ _ _ => cases hu
    | call h => exact h
  have out : ∀ k, kk.contains k = false → ∀ i, i < n → ∀ d x bs, us i = .call d x bs → lookB bs k = none := fun k hk i hi d x bs hu => by
    obtain ⟨o, ho⟩ := getn i hi
    have := ok i o hi ho
    rw [hu] at this
    cases this with
    | call _ _ h => exact h k hk
  have full : ∀ i, i ≤ n → accB s us (fun _ => true) i = accB s us (fun j => decide (j < i)) n := fun i hi => by
    have h1 : accB s us (fun _ => true) i = accB s us (fun j => decide (j < i)) i := accB_congr i fun j hj => by simp [hj]
    have h2 : ∀ m, i ≤ m → m ≤ n → accB s us (fun j => decide (j < i)) m = accB s us (fun j => decide (j < i)) i := by
      intro m
      induction m with
      | zero => intro h1 _; obtain rfl : i = 0 := by omega
                rfl
      | succ m ih =>
        intro h1 h2
        by_cases e : i = m + 1
        · rw [e]
        · simp only [accB]; rw [ih (by omega) (by omega)]; simp [show ¬ m < i by omega]
    rw [h1, h2 n hi (Nat.le_refl _)]
  refine awp_region_gen hm n hf.tf (fun L => accB s us L n) (s1 := s1) ?_ (fun L h1 h2 => ?_) (fun L i o hi ho hLi hLn hLp hLc => ?_) htail
  · have : ∀ m, accB s us (fun _ => false) m = s := by
      intro m
      induction m with
      | zero => rfl
      | succ m ih => simp only [accB, cond_false]; exact ih
    exact this n
  · rw [hs1]
    exact accB_congr n fun j hj => h1 j hj
  · have diff : ∀ j b, j < n → ops.toArray[j]? = some b → conflB ops.toArray b o = true ∨ conflB ops.toArray o b = true → L j = decide (j < i) := fun j b hj hb hc => by
      have sym : conflB ops.toArray b o = true ∧ conflB ops.toArray o b = true := by
        have : conflB ops.toArray b o = conflB ops.toArray o b := by
          unfold conflB
          rw [Bool.or_comm (looksB ops.toArray o b.dst)]
          congr 1
          cases b.dst <;> cases o.dst <;> simp [Bool.beq_comm, eq_comm]
        rw [this] at hc ⊢
        simpa using hc
      rcases Nat.lt_trichotomy j i with h | h | h
      · rw [decide_eq_true h]; exact hLp j h (hf.ord j i b o h hi hb ho sym.1)
      · subst h; rw [hLi, decide_eq_false (by omega)]
      · rw [decide_eq_false (by omega)]
        cases hL : L j with
        | false => rfl
        | true =>
          have := hLc j hL i (hf.ord i j o b h hj ho hb sym.2)
          rw [hLi] at this; cases this
    have hins : accB s us (insL L i) n = apB (accB s us L n) (us i) := accB_insert hLi n hi fun j hij hjn hLj s0 => by
      obtain ⟨b, hb⟩ := getn j hjn
      have hnc : conflB ops.toArray o b = false := by
        cases hc : conflB ops.toArray o b with
        | false => rfl
        | true =>
          have := hLc j hLj i (hf.ord i j o b hij hjn ho hb hc)
          rw [hLi] at this; cases this
      simp only [conflB, Bool.or_eq_false_iff] at hnc
      obtain ⟨_, h3⟩ := hnc
      have hd : ∀ t, (us i).dst = some t → (us j).dst ≠ some t := fun t e1 e2 => by
        rw [dstOf i o hi ho] at e1
        rw [dstOf j b hjn hb] at e2
        rw [e1, e2] at h3
        simp at h3
      have hap : ¬ ((us i).isC = true ∧ (us j).isC = true) := fun ⟨e1, e2⟩ => by
        have := isc i hi e1
        have := isc j hjn e2
        omega
      cases hui : us i with
      | reg d x =>
        rw [hui] at hd
        cases huj : us j with
        | reg d' x' => rw [huj] at hd; simp only [apB]; exact put_comm hd
        | call d' x' bs' =>
          rw [huj] at hd
          simp only [apB]
          rw [put_over]
          exact put_comm (d := d) (d' := some d') hd
      | call d x bs =>
        rw [hui] at hd hap
        cases huj : us j with
        | reg d' x' =>
          rw [huj] at hd
          simp only [apB]
          rw [put_over]
          exact put_comm (d := some d) (d' := d') hd
        | call d' x' bs' => rw [huj] at hap; exact absurd ⟨rfl, rfl⟩ hap
    show E1 X ops.toArray (accB s us L n) o (accB s us (insL L i) n)
    rw [hins]
    have hoki := ok i o hi ho
    have tm : ∀ t ∈ o.looksAt ops.toArray, (accB s us L n).tmps t = (accB s us (fun _ => true) i).tmps t := fun t ht => by
      rw [full i (by omega)]
      refine accB_tmps n fun j hj hu => ?_
      obtain ⟨b, hb⟩ := getn j hj
      have hbd : b.dst = some t := by rw [← dstOf j b hj hb]; exact hu
      exact diff j b hj hb (.inl (by simp [conflB, hbd, looksB_of ht]))
    cases hui : us i with
    | reg d x =>
      rw [hui] at hoki
      cases hoki with
      | reg hmc hd h =>
        refine (h (accB s us L n) tm fun k hk => ?_).e1 hd
        rw [accB_out n (out k hk), accB_out i fun j hj => out k hk j (by omega)]
    | call d x bs =>
      rw [hui] at hoki
      cases hoki with
      | call hmc hd hk h =>
        refine h (accB s us L n) ?_ tm
        rw [full i (by omega)]
        refine accB_blk n fun j hj hu => ?_
        have := isc j hj hu
        have e : j = i := by omega
        subst e
        rw [hLi, decide_eq_false (by omega)]

def awpBc (kk : List Nat) (c m : Nat) (X : Ctx) (all : Array Oper) (pre rest : List Oper) (Q : Exit → St → Prop) (s : St) : Prop := ∃ s1, PRunB X all kk c m pre s s1 ∧ awpL X all rest Q s1
def freeB (kk : List Nat) (s : St) (o : Oper) : Bool := isMove o || isSl o || (isLoad o && (match keyOf s o with | none => true | some k => !(kk.contains k)))
section
variable {X : Ctx} {all : Array Oper} {Q : Exit → St → Prop} {s : St} {o : Oper} {pre rest : List Oper} {kk : List Nat} {c m : Nat}
theorem awpBc_nil (h : awpL X all rest Q s) : awpBc kk c m X all [] rest Q s := ⟨s, .nil, h⟩
theorem stepBQ {d : Tmp} {C : Prop} {x : V} (mm : Bool) (hk : Nat.beq (opK o.op) 0 = true) (hmc : Nat.beq m c = false) (hg : gd all s o = some true) (hdst : o.dst = some d) (hd : dstOk X.N (some d) = true) (hq : evalF X.T mm s o.op = some (C, x)) (hC : C) (hfr : freeB kk s o = true) (k : awpBc kk c (m + 1) X all pre rest Q (s.put (some d) x)) : awpBc kk c m X all (o :: pre) rest Q s := by
  rw [← hdst] at hd k
  obtain ⟨s1, h1, h2⟩ := k
  refine ⟨s1, .reg (fun e => by subst e; rw [Nat.beq_refl] at hmc; cases hmc) hd (fun s' hs' hb' => m_q mm ((gd_agree hs').trans hg) ?_ hC) h1, h2⟩
  rw [evalF_eq] at hq ⊢
  unfold freeB at hfr
  rw [Bool.or_eq_true, Bool.or_eq_true] at hfr
  rcases hfr with (hfr | hfr) | hfr
  · rw [evalQ_move hfr hs']; exact hq
  · rw [evalQ_slice hfr hs']; exact hq
  · rw [Bool.and_eq_true] at hfr
    refine evalQ_load hfr.1 hq hs' fun k b hkey hb => ?_
    have h2 := hfr.2
    rw [hkey] at h2
    rw [hb' k (by simpa using h2)]; exact hb
theorem clBP {cl : Call} {caps : List V} {ds ds' : List D} {d : Tmp} {r : D} (f : FuncId) (hr : Ret X.P f ds' (· = r)) (hmc : Nat.beq m c = false) (hop : o.op = .call cl) (hc : calleeOf s cl = some (f, caps)) (hdst : o.dst = some d) (hg : gd all s o = some true) (hd : dstOk X.N (some d) = true) (ha : allD (cl.args.toList.map s.opd ++ caps) = some ds) (le : LeT ds ds') (k : awpBc kk c (m + 1) X all pre rest Q (s.put (some d) (.d r))) : awpBc kk c m X all (o :: pre) rest Q s := by
  rw [← hdst] at hd k
  obtain ⟨s1, h1, h2⟩ := k
  refine ⟨s1, .reg (fun e => by subst e; rw [Nat.beq_refl] at hmc; cases hmc) hd (fun s' hs' hb' => ?_) h1, h2⟩
  obtain ⟨e1, e2⟩ := callee_agree (s := s) hop hs'
  exact m_callR ((gd_agree hs').trans hg) hop (e1.trans hc) (by rw [e2]; exact ha) le hr
theorem clBC {cl : Call} {caps : List V} {d : Tmp} (f : FuncId) {xs : List V} {bs bs' : List (Nat × Blk)} {y : V} (hr : RetB X.P f xs (lookB bs) y (lookB bs')) (hmc : Nat.beq m c = true) (hop : o.op = .call cl) (hc : calleeOf s cl = some (f, caps)) (hdst : o.dst = some d) (hg : gd all s o = some true) (hd : dstOk X.N (some d) = true) (hcov : (keysOk bs (V.refsL xs) && coverR bs bs && keysIn bs [] bs' && freshOk X.K bs []) = true) (hkk : (bs'.all fun p => kk.contains p.1) = true) (le : LeVT (cl.args.toList.map s.opd ++ caps) xs) (hB : AllB s bs) (k : awpBc kk c (m + 1) X all pre rest Q ((s.over bs').put (some d) y)) : awpBc kk c m X all (o :: pre) rest Q s := by
  simp only [Bool.and_eq_true] at hcov
  obtain ⟨⟨⟨c1, c2⟩, c3⟩, c4⟩ := hcov
  obtain ⟨s1, h1, h2⟩ := k
  refine ⟨s1, .call (Nat.eq_of_beq_eq_true hmc) hdst (fun k hk => ?_) (fun s' hb' htm => ?_) h1, h2⟩
  · cases hl : lookB bs' k with
    | none => rfl
    | some b =>
      rw [List.all_eq_true] at hkk
      have := hkk _ (lookB_mem hl)
      simp only at this
      rw [hk] at this; cases this
  · obtain ⟨e1, e2⟩ := callee_agree (s := s) hop htm
    have h := e_callB (X := X) (all := all) (s := s') (o := o) [] ((gd_agree htm).trans hg) (by rw [hdst]; exact hd) hop (e1.trans hc) (by rw [e2]; exact le) hr (fun k b hk => by rw [hb']; exact (lookB_of hB k b hk).1) (fun k hk => hasKey_ne (keysOk_spec c1 k hk)) (fun k b hk j hj => coverR_spec c2 _ (lookB_mem hk) j hj) (fun k hk => by
      obtain ⟨b, hb⟩ := Option.ne_none_iff_exists'.1 hk
      exact keysIn_spec c3 _ (lookB_mem hb)) (fun k hk => freshOk_spec c4 k hk)
    rw [hdst] at h
    exact h
theorem goBc {G : Prop} {ops : List Oper} (k : G) (h : G → awpBc kk c m X all ops rest Q s := by
  first
  | exact Go.Vw.stepBQ true Go.Vw.tt Go.Vw.ff Go.Vw.stt rfl rfl rfl Go.Vw.sc rfl
  | exact Go.Vw.awpBc_nil
  | exact Go.Vw.stepBQ false Go.Vw.tt Go.Vw.ff Go.Vw.stt rfl rfl rfl Go.Vw.sc rfl
  | fail) : awpBc kk c m X all ops rest Q s := h k
theorem awp_regB (id n c : Nat) (kk : List Nat) {ops : List Oper} (h : awpBc kk c 0 X ops.toArray (ops.take n) (ops.drop n) Q s) (hm : X.P.follows .mixedOrders = true) (hok : ordB ops.toArray n = true) : awp X (.region id ops.toArray true) Q s := by
  obtain ⟨s1, h1, h2⟩ := h
  exact awp_region_call hm n c kk hok h1 h2
end
end Go.Vw

/-
  What the program writes. Conditions: not too many nodes.
-/
set_option maxHeartbeats 8000000
namespace Go.Proofs.YtfnonogemgnlhaaDoor
open Go.Vw
attribute [local irreducible] awp awpL awpR

abbrev pnB (e : List Nd) (a : Int) : Blk := .box 57 [.d (ndsD e), .d (.int .i64 a)]
abbrev prW (e : List Nd) (a : Nat) : List (Nat × Blk) := [(600, pnB e a)]
theorem printer_operand (e : List Nd) (hl : e.length ≤ 1000) (T : Ft) (a : Nat) (l : List Nd) (hok : T.ok) (h : e.drop a = T.flat ++ l) (hx : RetB Tryd.prog 27 [.ptr 600 0] (lookB (prW e a)) (.d (.str T.pr)) (lookB (prW e (a + T.flat.length : Nat)))) (r : Nat) (hr : r ≤ 4) : RetB Tryd.prog 48 [.ptr 600 0, .d (.int .i64 r)] (lookB (prW e a)) (.d (.str (T.prB r))) (lookB (prW e (a + T.flat.length : Nat))) := by
  obtain ⟨h1, h2⟩ := flat_head T h
  have ru := (formula_rule (e[a]?.getD nd0).1).to (r' := .int .i64 (rk T.op)) (by rw [h1])
  unfold Ft.prB
  have hk : rk T.op ≤ 4 := by unfold rk; repeat' split
                              all_goals omega
  have hs := pr_len T hok
  have hf : T.flat.length ≤ e.length := by
    have := congrArg List.length h
    simp at this; omega
  generalize rk T.op = k at *
  generalize T.pr = s at *
  generalize a + T.flat.length = a2 at *
  have hs : s.length ≤ 60000 := by omega
  by_cases g : k < r
  · rw [decide_eq_true g]
    refine retB_of_awp tab [600] Tryd.func48 rfl rfl rfl (Nat.le_of_ble_eq_true rfl) rfl ⟨Nat.le_refl _, trivial⟩ (fun w0 F0 A io0 => ?_)
    repeat' (first | refine wG ?_ | refine wD [] hx ?_ | refine wC ru ?_ | refine rg 1 8 ?_ | refine wR ?_ | refine wS ?_ ?_ <;> intro _ | refine wB ?_ ?_ | refine wF ?_)
    all_goals first | exact leVT | exact ⟨rfl, trivial⟩
  · rw [decide_eq_false g]
    refine retB_of_awp tab [600] Tryd.func48 rfl rfl rfl (Nat.le_of_ble_eq_true rfl) rfl ⟨Nat.le_refl _, trivial⟩ (fun w0 F0 A io0 => ?_)
    repeat' (first | refine wG ?_ | refine wD [] hx ?_ | refine wC ru ?_ | refine rg 1 8 ?_ | refine wR ?_ | refine wS ?_ ?_ <;> intro _ | refine wB ?_ ?_ | refine wF ?_)
    all_goals first | exact leVT | exact ⟨rfl, trivial⟩
theorem ndBEq {e : List Nd} {a : Nat} {n : Nd} (h : e[a]?.getD nd0 = n) : some (Blk.box ndT [.d (.int .i64 (e[a]?.getD nd0).1), .d (.str (e[a]?.getD nd0).2.1), .d (.int .i64 (e[a]?.getD nd0).2.2)]) = some (Blk.box ndT [.d (.int .i64 n.1), .d (.str n.2.1), .d (.int .i64 n.2.2)]) := by rw [h]
theorem pnEq {e : List Nd} {a b : Int} (h : a = b) : some (pnB e a) = some (pnB e b) := by rw [h]
theorem printer_leaf (e : List Nd) (hl : e.length ≤ 1000) (op : Int) (s : List UInt8) (k : Int) (hok : leafOk (op, s, k)) (a : Nat) (l : List Nd) (h : e.drop a = (op, s, k) :: l) : RetB Tryd.prog 27 [.ptr 600 0] (lookB (prW e a)) (.d (.str (leafB (op, s, k)))) (lookB (prW e (a + 1 : Nat))) := by
    have h0 : e[a]?.getD nd0 = (op, s, k) := get_head h
    have h2 : a < e.length := (flat_head (.leaf (op, s, k)) h).2
    clear h
    rcases hok with ⟨q, q1, q2⟩ | ⟨q, q1, q2, q3⟩ | ⟨q | q, q1, q2⟩ <;> simp only at q q1 q2 <;> subst q
    · show RetB _ _ _ _ (.d (.str s)) _
      subst q2
      refine retB_of_awp tab [600] Tryd.func27 rfl rfl rfl (Nat.le_of_ble_eq_true rfl) rfl ⟨Nat.le_refl _, trivial⟩ (fun w0 F0 A io0 => ?_)
      repeat' (first | refine stopA 3 tt ?_ | refine wG ?_ | refine rgK 1 11 [3] ?_ | refine rg 7 7 ?_ | refine rg 13 6 ?_ | refine rg 14 8 ?_ | refine wR ?_ | refine wS ?_ ?_ <;> intro _ | refine wB ?_ ?_ | refine wF ?_)
      refine stopOut ?_
      refine awp_rename [(0, .ptr 600 0), (2, .d (.str [])), (3, .ptr 3 0)] [(600, pnB e (a + 1 : Nat)), (3, .box ndT [.d (.int .i64 1), .d (.str s), .d (.int .i64 0)])] [] ⟨rfl, rfl, rfl, rfl⟩ ⟨pnEq (by omega), ndBEq h0, trivial⟩ ?_
      repeat' (first | refine wG ?_ | refine rgK 1 11 [3] ?_ | refine rg 7 7 ?_ | refine rg 13 6 ?_ | refine rg 14 8 ?_ | refine wR ?_ | refine wS ?_ ?_ <;> intro _ | refine wB ?_ ?_ | refine wF ?_)
      all_goals first | exact leVT | exact ⟨rfl, trivial⟩
    · obtain ⟨m, rfl⟩ : ∃ m : Nat, k = m := ⟨k.toNat, by omega⟩
      have hs := (isName_len q1).2
      have it := strconv_Itoa9 m (by simp only at q3; omega)
      have hr : leafB ((2 : Int), s, (m : Int)) = (((([112, 111, 119, 101, 114, 40] : List UInt8) ++ s) ++ [44, 32]) ++ [dgB m]) ++ [41] := by simp [leafB, pwB]
      rw [hr]
      refine retB_of_awp tab [600] Tryd.func27 rfl rfl rfl (Nat.le_of_ble_eq_true rfl) rfl ⟨Nat.le_refl _, trivial⟩ (fun w0 F0 A io0 => ?_)
      repeat' (first | refine stopA 3 tt ?_ | refine wG ?_ | refine rgK 1 11 [3] ?_ | refine rg 7 7 ?_ | refine rg 13 6 ?_ | refine rg 14 8 ?_ | refine wR ?_ | refine wS ?_ ?_ <;> intro _ | refine wB ?_ ?_ | refine wF ?_)
      refine stopOut ?_
      refine awp_rename [(0, .ptr 600 0), (2, .d (.str [])), (3, .ptr 3 0)] [(600, pnB e (a + 1 : Nat)), (3, .box ndT [.d (.int .i64 2), .d (.str s), .d (.int .i64 m)])] [] ⟨rfl, rfl, rfl, rfl⟩ ⟨pnEq (by omega), ndBEq h0, trivial⟩ ?_
      repeat' (first | refine wG ?_ | refine wC it ?_ | refine rgK 1 11 [3] ?_ | refine rg 7 7 ?_ | refine rg 13 6 ?_ | refine rg 14 8 ?_ | refine wR ?_ | refine wS ?_ ?_ <;> intro _ | refine wB ?_ ?_ | refine wF ?_)
      all_goals first | exact leVT | exact ⟨rfl, trivial⟩
    · subst q1 q2
      refine retB_of_awp tab [600] Tryd.func27 rfl rfl rfl (Nat.le_of_ble_eq_true rfl) rfl ⟨Nat.le_refl _, trivial⟩ (fun w0 F0 A io0 => ?_)
      repeat' (first | refine stopA 3 tt ?_ | refine wG ?_ | refine rgK 1 11 [3] ?_ | refine rg 7 7 ?_ | refine rg 13 6 ?_ | refine rg 14 8 ?_ | refine wR ?_ | refine wS ?_ ?_ <;> intro _ | refine wB ?_ ?_ | refine wF ?_)
      refine stopOut ?_
      refine awp_rename [(0, .ptr 600 0), (2, .d (.str [])), (3, .ptr 3 0)] [(600, pnB e (a + 1 : Nat)), (3, .box ndT [.d (.int .i64 3), .d (.str []), .d (.int .i64 0)])] [] ⟨rfl, rfl, rfl, rfl⟩ ⟨pnEq (by omega), ndBEq h0, trivial⟩ ?_
      repeat' (first | refine wG ?_ | refine rgK 1 11 [3] ?_ | refine rg 7 7 ?_ | refine rg 13 6 ?_ | refine rg 14 8 ?_ | refine wR ?_ | refine wS ?_ ?_ <;> intro _ | refine wB ?_ ?_ | refine wF ?_)
      all_goals first | exact leVT | exact ⟨rfl, trivial⟩
    · subst q1 q2
      refine retB_of_awp tab [600] Tryd.func27 rfl rfl rfl (Nat.le_of_ble_eq_true rfl) rfl ⟨Nat.le_refl _, trivial⟩ (fun w0 F0 A io0 => ?_)
      repeat' (first | refine stopA 3 tt ?_ | refine wG ?_ | refine rgK 1 11 [3] ?_ | refine rg 7 7 ?_ | refine rg 13 6 ?_ | refine rg 14 8 ?_ | refine wR ?_ | refine wS ?_ ?_ <;> intro _ | refine wB ?_ ?_ | refine wF ?_)
      refine stopOut ?_
      refine awp_rename [(0, .ptr 600 0), (2, .d (.str [])), (3, .ptr 3 0)] [(600, pnB e (a + 1 : Nat)), (3, .box ndT [.d (.int .i64 4), .d (.str []), .d (.int .i64 0)])] [] ⟨rfl, rfl, rfl, rfl⟩ ⟨pnEq (by omega), ndBEq h0, trivial⟩ ?_
      repeat' (first | refine wG ?_ | refine rgK 1 11 [3] ?_ | refine rg 7 7 ?_ | refine rg 13 6 ?_ | refine rg 14 8 ?_ | refine wR ?_ | refine wS ?_ ?_ <;> intro _ | refine wB ?_ ?_ | refine wF ?_)
      all_goals first | exact leVT | exact ⟨rfl, trivial⟩
theorem prB_len (T : Ft) (hok : T.ok) (r : Nat) : (T.prB r).length ≤ 50 * T.flat.length + 2 := by
  have h1 := pr_len T hok
  have h2 := brB_len (decide (rk T.op < r)) T.pr
  unfold Ft.prB
  omega
theorem printer_expression (e : List Nd) (hl : e.length ≤ 1000) : ∀ (T : Ft), T.ok → ∀ (a : Nat) (l : List Nd), e.drop a = T.flat ++ l → RetB Tryd.prog 27 [.ptr 600 0] (lookB (prW e a)) (.d (.str T.pr)) (lookB (prW e (a + T.flat.length : Nat)))
  | .leaf n, hok, a, l, h => printer_leaf e hl n.1 n.2.1 n.2.2 hok a l h
  | .un k b, hok, a, l, h => by
    have hok : 1 ≤ k ∧ k ≤ 6 ∧ b.ok := hok
    have h : e.drop a = ((10 : Int), [], k) :: (b.flat ++ l) := h
    have h0 : e[a]?.getD nd0 = ((10 : Int), [], k) := get_head h
    have h2 : a < e.length := (flat_head (.un k b) (l := l) h).2
    have h3 := drop_one h
    have po := printer_operand e hl b (a + 1) l hok.2.2 h3 (printer_expression e hl b hok.2.2 (a + 1) l h3) 3 (by omega)
    have hs := prB_len b hok.2.2 3
    have hf : b.flat.length ≤ e.length := by
      have := congrArg List.length h3
      simp at this; omega
    have hsl : (b.prB 3).length ≤ 60000 := by omega
    obtain ⟨m, rfl⟩ : ∃ m : Nat, k = m := ⟨k.toNat, by omega⟩
    have it := strconv_Itoa9 m (by omega)
    have hr : (Ft.un (m : Int) b).pr = (b.prB 3 ++ [94]) ++ [dgB m] := by simp [Ft.pr, Ft.prB]
    have hq : a + (Ft.un (m : Int) b).flat.length = a + 1 + b.flat.length := by simp only [Ft.flat, List.length_cons]; omega
    rw [hr, hq]
    generalize b.prB 3 = s at *
    generalize a + 1 + b.flat.length = a2 at *
    clear hs h h3 hr hq
    refine retB_of_awp tab [600] Tryd.func27 rfl rfl rfl (Nat.le_of_ble_eq_true rfl) rfl ⟨Nat.le_refl _, trivial⟩ (fun w0 F0 A io0 => ?_)
    repeat' (first | refine stopA 3 tt ?_ | refine wG ?_ | refine rgK 1 11 [3] ?_ | refine rg 7 7 ?_ | refine rg 13 6 ?_ | refine rg 14 8 ?_ | refine wR ?_ | refine wS ?_ ?_ <;> intro _ | refine wB ?_ ?_ | refine wF ?_)
    refine stopOut ?_
    refine awp_rename [(0, .ptr 600 0), (2, .d (.str [])), (3, .ptr 3 0)] [(600, pnB e (a + 1 : Nat)), (3, .box ndT [.d (.int .i64 10), .d (.str []), .d (.int .i64 m)])] [] ⟨rfl, rfl, rfl, rfl⟩ ⟨pnEq (by omega), ndBEq h0, trivial⟩ ?_
    repeat' (first | refine stopA 13 tt ?_ | refine wG ?_ | refine rgK 1 11 [3] ?_ | refine rg 7 7 ?_ | refine rg 13 6 ?_ | refine rg 14 8 ?_ | refine wR ?_ | refine wS ?_ ?_ <;> intro _ | refine wB ?_ ?_ | refine wF ?_)
    refine stopOut ?_
    refine awp_seq ?_
    refine awp_regB 13 6 1 [600] ?_ mixed (by kernel_rfl)
    (repeat' (show awpBc _ _ _ _ _ _ _ _ _; first | refine goBc ?_ | refine clBP 47 it rfl rfl rfl rfl rfl rfl rfl leT ?_ | refine clBC 48 po rfl rfl rfl rfl rfl rfl (by kernel_rfl) rfl leVT ⟨rfl, trivial⟩ ?_))
    repeat' (first | refine wG ?_ | refine rgK 1 11 [3] ?_ | refine rg 7 7 ?_ | refine rg 13 6 ?_ | refine rg 14 8 ?_ | refine wR ?_ | refine wS ?_ ?_ <;> intro _ | refine wB ?_ ?_ | refine wF ?_)
    all_goals first | exact leVT | exact ⟨rfl, trivial⟩
  | .bi op b c, hok, a, l, h => by
    have hok : 5 ≤ op ∧ op ≤ 9 ∧ b.ok ∧ c.ok := hok
    have h : e.drop a = (op, [], (0 : Int)) :: (b.flat ++ (c.flat ++ l)) := by
      rw [h]; simp [Ft.flat]
    have h0 : e[a]?.getD nd0 = (op, [], (0 : Int)) := get_head h
    have h3 := drop_one h
    have h4 := drop_flat h3
    have h2 := (flat_head c h4).2
    have hf : b.flat.length ≤ e.length := by omega
    have hf2 : c.flat.length ≤ e.length := by
      have := congrArg List.length h4
      simp at this; omega
    have po : ∀ r, r ≤ 4 → _ := printer_operand e hl b (a + 1) _ hok.2.2.1 h3 (printer_expression e hl b hok.2.2.1 (a + 1) _ h3)
    have po2 : ∀ r, r ≤ 4 → _ := printer_operand e hl c (a + 1 + b.flat.length) _ hok.2.2.2 h4 (printer_expression e hl c hok.2.2.2 _ _ h4)
    have hs : ∀ r, (b.prB r).length ≤ 60000 := fun r => by have := prB_len b hok.2.2.1 r; omega
    have hs2 : ∀ r, (c.prB r).length ≤ 60000 := fun r => by have := prB_len c hok.2.2.2 r; omega
    have hq : a + (Ft.bi op b c).flat.length = a + 1 + b.flat.length + c.flat.length := by simp only [Ft.flat, List.length_cons, List.length_append]; omega
    have hr : (Ft.bi op b c).pr = b.prB (rk op) ++ (sgB op ++ c.prB (rk op + 1)) := by simp [Ft.pr, Ft.prB]
    rw [hr, hq]
    have h2 : a + 1 ≤ e.length := by omega
    generalize a + 1 + b.flat.length + c.flat.length = a3 at *
    generalize a + 1 + b.flat.length = a2 at *
    have sg := formula_signs
    have hop : op = 5 ∨ op = 6 ∨ op = 7 ∨ op = 8 ∨ op = 9 := by omega
    clear h h3 h4 hr hq hf hf2
    rcases hop with q | q | q | q | q <;> subst q
    · have po := po 0 (by omega)
      have po2 := po2 1 (by omega)
      have jn := strings_Join2 (b.prB 0) (c.prB 1) [32, 43, 32] (by have := hs 0; omega) (by have := hs2 1; omega) (by decide)
      have hs := hs 0
      have hs2 := hs2 1
      have ru := formula_rule 5
      show RetB _ _ _ _ (.d (.str (b.prB 0 ++ ([32, 43, 32] ++ c.prB 1)))) _
      generalize b.prB 0 = s1 at *
      generalize c.prB 1 = s2 at *
      refine retB_of_awp tab [600] Tryd.func27 rfl rfl rfl (Nat.le_of_ble_eq_true rfl) rfl ⟨Nat.le_refl _, trivial⟩ (fun w0 F0 A io0 => ?_)
      repeat' (first | refine stopA 3 tt ?_ | refine wG ?_ | refine rgK 1 11 [3] ?_ | refine rg 7 7 ?_ | refine rg 13 6 ?_ | refine rg 14 8 ?_ | refine wR ?_ | refine wS ?_ ?_ <;> intro _ | refine wB ?_ ?_ | refine wF ?_)
      refine stopOut ?_
      refine awp_rename [(0, .ptr 600 0), (2, .d (.str [])), (3, .ptr 3 0)] [(600, pnB e (a + 1 : Nat)), (3, .box ndT [.d (.int .i64 5), .d (.str []), .d (.int .i64 0)])] [] ⟨rfl, rfl, rfl, rfl⟩ ⟨pnEq (by omega), ndBEq h0, trivial⟩ ?_
      repeat' (first | refine wG ?_ | refine wD [] po ?_ | refine wD [] po2 ?_ | refine wC ((ru.to (r' := .int .i64 0) rfl)) ?_ | refine wC sg ?_ | refine wC jn ?_ | refine rgK 1 11 [3] ?_ | refine rg 7 7 ?_ | refine rg 13 6 ?_ | refine rg 14 8 ?_ | refine wR ?_ | refine wS ?_ ?_ <;> intro _ | refine wB ?_ ?_ | refine wF ?_)
      all_goals first | exact leVT | exact ⟨rfl, trivial⟩
    · have po := po 0 (by omega)
      have po2 := po2 1 (by omega)
      have jn := strings_Join2 (b.prB 0) (c.prB 1) [32, 45, 32] (by have := hs 0; omega) (by have := hs2 1; omega) (by decide)
      have hs := hs 0
      have hs2 := hs2 1
      have ru := formula_rule 6
      show RetB _ _ _ _ (.d (.str (b.prB 0 ++ ([32, 45, 32] ++ c.prB 1)))) _
      generalize b.prB 0 = s1 at *
      generalize c.prB 1 = s2 at *
      refine retB_of_awp tab [600] Tryd.func27 rfl rfl rfl (Nat.le_of_ble_eq_true rfl) rfl ⟨Nat.le_refl _, trivial⟩ (fun w0 F0 A io0 => ?_)
      repeat' (first | refine stopA 3 tt ?_ | refine wG ?_ | refine rgK 1 11 [3] ?_ | refine rg 7 7 ?_ | refine rg 13 6 ?_ | refine rg 14 8 ?_ | refine wR ?_ | refine wS ?_ ?_ <;> intro _ | refine wB ?_ ?_ | refine wF ?_)
      refine stopOut ?_
      refine awp_rename [(0, .ptr 600 0), (2, .d (.str [])), (3, .ptr 3 0)] [(600, pnB e (a + 1 : Nat)), (3, .box ndT [.d (.int .i64 6), .d (.str []), .d (.int .i64 0)])] [] ⟨rfl, rfl, rfl, rfl⟩ ⟨pnEq (by omega), ndBEq h0, trivial⟩ ?_
      repeat' (first | refine wG ?_ | refine wD [] po ?_ | refine wD [] po2 ?_ | refine wC ((ru.to (r' := .int .i64 0) rfl)) ?_ | refine wC sg ?_ | refine wC jn ?_ | refine rgK 1 11 [3] ?_ | refine rg 7 7 ?_ | refine rg 13 6 ?_ | refine rg 14 8 ?_ | refine wR ?_ | refine wS ?_ ?_ <;> intro _ | refine wB ?_ ?_ | refine wF ?_)
      all_goals first | exact leVT | exact ⟨rfl, trivial⟩
    · have po := po 2 (by omega)
      have po2 := po2 3 (by omega)
      have jn := strings_Join2 (b.prB 2) (c.prB 3) [58] (by have := hs 2; omega) (by have := hs2 3; omega) (by decide)
      have hs := hs 2
      have hs2 := hs2 3
      have ru := formula_rule 7
      show RetB _ _ _ _ (.d (.str (b.prB 2 ++ ([58] ++ c.prB 3)))) _
      generalize b.prB 2 = s1 at *
      generalize c.prB 3 = s2 at *
      refine retB_of_awp tab [600] Tryd.func27 rfl rfl rfl (Nat.le_of_ble_eq_true rfl) rfl ⟨Nat.le_refl _, trivial⟩ (fun w0 F0 A io0 => ?_)
      repeat' (first | refine stopA 3 tt ?_ | refine wG ?_ | refine rgK 1 11 [3] ?_ | refine rg 7 7 ?_ | refine rg 13 6 ?_ | refine rg 14 8 ?_ | refine wR ?_ | refine wS ?_ ?_ <;> intro _ | refine wB ?_ ?_ | refine wF ?_)
      refine stopOut ?_
      refine awp_rename [(0, .ptr 600 0), (2, .d (.str [])), (3, .ptr 3 0)] [(600, pnB e (a + 1 : Nat)), (3, .box ndT [.d (.int .i64 7), .d (.str []), .d (.int .i64 0)])] [] ⟨rfl, rfl, rfl, rfl⟩ ⟨pnEq (by omega), ndBEq h0, trivial⟩ ?_
      repeat' (first | refine wG ?_ | refine wD [] po ?_ | refine wD [] po2 ?_ | refine wC ((ru.to (r' := .int .i64 2) rfl)) ?_ | refine wC sg ?_ | refine wC jn ?_ | refine rgK 1 11 [3] ?_ | refine rg 7 7 ?_ | refine rg 13 6 ?_ | refine rg 14 8 ?_ | refine wR ?_ | refine wS ?_ ?_ <;> intro _ | refine wB ?_ ?_ | refine wF ?_)
      all_goals first | exact leVT | exact ⟨rfl, trivial⟩
    · have po := po 1 (by omega)
      have po2 := po2 2 (by omega)
      have jn := strings_Join2 (b.prB 1) (c.prB 2) [32, 42, 32] (by have := hs 1; omega) (by have := hs2 2; omega) (by decide)
      have hs := hs 1
      have hs2 := hs2 2
      have ru := formula_rule 8
      show RetB _ _ _ _ (.d (.str (b.prB 1 ++ ([32, 42, 32] ++ c.prB 2)))) _
      generalize b.prB 1 = s1 at *
      generalize c.prB 2 = s2 at *
      refine retB_of_awp tab [600] Tryd.func27 rfl rfl rfl (Nat.le_of_ble_eq_true rfl) rfl ⟨Nat.le_refl _, trivial⟩ (fun w0 F0 A io0 => ?_)
      repeat' (first | refine stopA 3 tt ?_ | refine wG ?_ | refine rgK 1 11 [3] ?_ | refine rg 7 7 ?_ | refine rg 13 6 ?_ | refine rg 14 8 ?_ | refine wR ?_ | refine wS ?_ ?_ <;> intro _ | refine wB ?_ ?_ | refine wF ?_)
      refine stopOut ?_
      refine awp_rename [(0, .ptr 600 0), (2, .d (.str [])), (3, .ptr 3 0)] [(600, pnB e (a + 1 : Nat)), (3, .box ndT [.d (.int .i64 8), .d (.str []), .d (.int .i64 0)])] [] ⟨rfl, rfl, rfl, rfl⟩ ⟨pnEq (by omega), ndBEq h0, trivial⟩ ?_
      repeat' (first | refine wG ?_ | refine wD [] po ?_ | refine wD [] po2 ?_ | refine wC ((ru.to (r' := .int .i64 1) rfl)) ?_ | refine wC sg ?_ | refine wC jn ?_ | refine rgK 1 11 [3] ?_ | refine rg 7 7 ?_ | refine rg 13 6 ?_ | refine rg 14 8 ?_ | refine wR ?_ | refine wS ?_ ?_ <;> intro _ | refine wB ?_ ?_ | refine wF ?_)
      all_goals first | exact leVT | exact ⟨rfl, trivial⟩
    · have po := po 1 (by omega)
      have po2 := po2 2 (by omega)
      have jn := strings_Join2 (b.prB 1) (c.prB 2) [32, 47, 32] (by have := hs 1; omega) (by have := hs2 2; omega) (by decide)
      have hs := hs 1
      have hs2 := hs2 2
      have ru := formula_rule 9
      show RetB _ _ _ _ (.d (.str (b.prB 1 ++ ([32, 47, 32] ++ c.prB 2)))) _
      generalize b.prB 1 = s1 at *
      generalize c.prB 2 = s2 at *
      refine retB_of_awp tab [600] Tryd.func27 rfl rfl rfl (Nat.le_of_ble_eq_true rfl) rfl ⟨Nat.le_refl _, trivial⟩ (fun w0 F0 A io0 => ?_)
      repeat' (first | refine stopA 3 tt ?_ | refine wG ?_ | refine rgK 1 11 [3] ?_ | refine rg 7 7 ?_ | refine rg 13 6 ?_ | refine rg 14 8 ?_ | refine wR ?_ | refine wS ?_ ?_ <;> intro _ | refine wB ?_ ?_ | refine wF ?_)
      refine stopOut ?_
      refine awp_rename [(0, .ptr 600 0), (2, .d (.str [])), (3, .ptr 3 0)] [(600, pnB e (a + 1 : Nat)), (3, .box ndT [.d (.int .i64 9), .d (.str []), .d (.int .i64 0)])] [] ⟨rfl, rfl, rfl, rfl⟩ ⟨pnEq (by omega), ndBEq h0, trivial⟩ ?_
      repeat' (first | refine wG ?_ | refine wD [] po ?_ | refine wD [] po2 ?_ | refine wC ((ru.to (r' := .int .i64 1) rfl)) ?_ | refine wC sg ?_ | refine wC jn ?_ | refine rgK 1 11 [3] ?_ | refine rg 7 7 ?_ | refine rg 13 6 ?_ | refine rg 14 8 ?_ | refine wR ?_ | refine wS ?_ ?_ <;> intro _ | refine wB ?_ ?_ | refine wF ?_)
      all_goals first | exact leVT | exact ⟨rfl, trivial⟩
end Go.Proofs.YtfnonogemgnlhaaDoor

/-
  What the program writes: whole formulas. Conditions: not too many nodes.
-/
set_option maxHeartbeats 8000000
namespace Go.Proofs.YtfnonogemgnlhaaDoor
open Go.Vw
attribute [local irreducible] awp awpL awpR

theorem formula_FormatY (s : List UInt8) (e : List Nd) (hl : e.length ≤ 1000) (h : vld s e = true) (T : Ft) (hT : T.flat = e) (hok : T.ok) : Ret Tryd.prog 15 [.agg [.str s, ndsD e]] (· = .tup [.str (s ++ [32, 126, 32] ++ T.pr), .int .i64 0]) := by
  have v := formula_Valid s e hl
  rw [h] at v
  have hs : s.length ≤ 32 := by
    unfold vld at h
    rw [Bool.and_eq_true] at h
    exact (isName_len h.1).2
  have ht := pr_len T hok
  have ht : T.pr.length ≤ 50000 := by rw [hT] at ht; omega
  have px := printer_expression e hl T hok 0 [] (by rw [hT]; simp)
  generalize T.pr = r at *
  generalize 0 + T.flat.length = a2 at *
  refine ret_of_awp tab Tryd.func15 rfl rfl (Nat.le_of_ble_eq_true rfl) (fun w0 F0 => ?_)
  repeat' (first | refine stopA 4 tt ?_ | refine wG ?_ | refine wC v ?_ | refine rg 4 5 ?_ | refine wR ?_ | refine wS ?_ ?_ <;> intro _ | refine finTG ?_)
  refine stopOut ?_
  refine awp_rename [(1, .ptr 1 0), (2, .d (.str [])), (3, .d (.int .i64 0)), (4, .ptr 11 0)] [(1, .box 25 [.d (.str s), .d (ndsD e)]), (11, pnB e 0)] [(11, 600)] ⟨rfl, rfl, rfl, rfl, rfl⟩ ⟨rfl, rfl, trivial⟩ ?_
  refine awp_seq ?_
  refine awp_regB 4 5 4 [600] ?_ mixed (by kernel_rfl)
  (repeat' (show awpBc _ _ _ _ _ _ _ _ _; first | refine goBc ?_ | refine clBC 27 px rfl rfl rfl rfl rfl rfl (by kernel_rfl) rfl leVT ⟨rfl, trivial⟩ ?_))
  repeat' (first | refine wG ?_ | refine rg 4 5 ?_ | refine wR ?_ | refine wS ?_ ?_ <;> intro _ | refine finTG ?_)
  exact leT
end Go.Proofs.YtfnonogemgnlhaaDoor

/-
  The reference's reader: signs, words, digits. Conditions: the text is not too long.
-/
set_option maxHeartbeats 8000000
namespace Go.Proofs.YtfnonogemgnlhaaDoor
open Go.Vw
attribute [local irreducible] awp awpL awpR

abbrev rdB (t : List UInt8) (a er pl : Int) : Blk := .box 49 [.d (.str t), .d (.int .i64 a), .d (.int .i64 er), .d (.int .i64 pl)]
abbrev rW (t : List UInt8) (a : Nat) (er pl : Int) : List (Nat × Blk) := [(600, rdB t a er pl)]
end Go.Proofs.YtfnonogemgnlhaaDoor

/-
  The reference's reader: what has to come, words, names, digits, exponents. Conditions: the text is not too long.
-/
set_option maxHeartbeats 8000000
namespace Go.Proofs.YtfnonogemgnlhaaDoor
open Go.Vw
attribute [local irreducible] awp awpL awpR

def dgI (t : List UInt8) (i : Nat) : Int := match digP t i with | some n => n | none => -1
end Go.Proofs.YtfnonogemgnlhaaDoor

/-
  A variable's data in another form; reading a literal as a list. Conditions: as each says.
-/
namespace Go.Vw
section
variable {X : Ctx} {all : Array Oper} {s : St} {o : Oper} {Q : Exit → St → Prop} {rest : List Oper} {d : Tmp} {α : Type} {en : α → List D} {z : α} {l : List α}
theorem e_litO {e : TypeId} {sz len : Nat} {rows : List (List D)} {dst : Option Tmp} {op : Op} {ty : TypeId} {pos : String} {after : Array Edge} {g : Option (Nat × Bool)} (hdst : dst = some d) (hg : gd all s ⟨dst, op, ty, pos, after, g⟩ = some true) (hd : dstOk X.N (some d) = true) (hK : X.K.contains d = false) (h : evalB X.T s op = some (e, sz, len, rows)) (hr : LeR sz rows en l) :
    E1 X all s ⟨dst, op, ty, pos, after, g⟩ ((s.new d (.data e sz en z l)).put (some d) (.own d 0 len e sz)) := by
  subst hdst
  intro io F a w hs K Q hQ
  have hw := gd_sound (fun t _ => hs.tm t) hg
  obtain ⟨h1, arr, h2, h3, h4, h5⟩ := evalB_sound (P := X.P) (ev := a.eval) X.ok ⟨some d, op, ty, pos, after, g⟩ (fun y _ => hs.opd y) h
  obtain ⟨r1, r2⟩ := hr.spec
  have hlra : LRA F w (fun j => arr[j]?) 0 sz en l := fun i b hi => by
    have hlt : i < rows.length := by have := (List.getElem?_eq_some_iff.1 hi).1; omega
    obtain ⟨q1, q2⟩ := r2 i _ b (List.getElem?_eq_getElem hlt) hi
    obtain ⟨p1, p2⟩ := h5 i _ (List.getElem?_eq_getElem hlt)
    exact ⟨q2.1 ▸ q1, by rw [Nat.zero_add]; exact q2.2 F w _ _ p2⟩
  have hnb := hs.newBlk d (notMem hK) e arr (.data e sz en z l) (.inl ⟨_, _, _, _, _, rfl, hlra⟩)
  refine opWp_value hw h2 (hQ _ F _ _ (hnb.put (dstOk_sound hd) ?_))
  simp only [VR]
  refine .inr ⟨w.heap.size, len, _, updio_same _ _ _, by rw [Nat.zero_mul], by omega, by unfold maxLen; omega, heap_alloc_new w _, by simp [h3], ?_⟩
  show 0 + len ≤ (s.new d _).ln d
  rw [show (s.new d (.data e sz en z l)).ln d = _ from ln_of withBlk_same]
  simp [Blk.ln]; omega
end
end Go.Vw

/-
  The reference's reader: operations, levels, operands. Conditions: the text is not too long.
-/
set_option maxHeartbeats 8000000
namespace Go.Proofs.YtfnonogemgnlhaaDoor
open Go.Vw
attribute [local irreducible] awp awpL awpR

end Go.Proofs.YtfnonogemgnlhaaDoor

/-
  The reference's reader: operands, expressions. Conditions: the text is not too long.
-/
set_option maxHeartbeats 8000000
namespace Go.Proofs.YtfnonogemgnlhaaDoor
open Go.Vw
attribute [local irreducible] awp awpL awpR

abbrev g0 : Nd := ((1 : Int), [], (0 : Int))
def RdR (f : FuncId) (args : List V) (t : List UInt8) (a : Nat) (pl : Int) : Pos (List Nd) → Prop
  | .ok (e, j) => ∃ a', a' ≤ t.length ∧ skp t a' = j ∧ RetB Tryd.prog f args (lookB (rW t a 0 pl)) (.d (ndsD e)) (lookB (rW t a' 0 pl))
  | .error x => ∃ M a', a' ≤ t.length + 1 ∧ M.length ≤ t.length - skp t a + 2 ∧ RetB Tryd.prog f args (lookB (rW t a 0 pl)) (.d (ndsD M)) (lookB (rW t a' x.2 x.1))
abbrev binA (r : Nat) : List V := [.ptr 600 0, .d (.int .i64 r)]
end Go.Proofs.YtfnonogemgnlhaaDoor

/-
  The reference's reader: expressions by their rules. Conditions: the text is not too long.
-/
set_option maxHeartbeats 8000000
namespace Go.Proofs.YtfnonogemgnlhaaDoor
open Go.Vw
attribute [local irreducible] awp awpL awpR

inductive RaiL (t : List UInt8) (pl : Int) : List Nd → Nat → Int → Int → List Nd → Nat → Prop where
  | stop {e a} (h : word t (skp t a) ≠ [94]) : RaiL t pl e a 0 pl e (skp t a)
  | err {e a x} (h : word t (skp t a) = [94]) (h1 : numP t 1 6 (skp t (skp t a + 1)) = .error x) : RaiL t pl e a x.2 x.1 (((10 : Int), [], dgI t (skp t (skp t a + 1))) :: e) (skp t (skp t (skp t a + 1) + 1))
  | step {e a n j q1 q2 M A} (h : word t (skp t a) = [94]) (h1 : numP t 1 6 (skp t (skp t a + 1)) = .ok (n, j)) (h2 : RaiL t pl (((10 : Int), [], (n : Int)) :: e) (skp t (skp t a + 1) + 1) q1 q2 M A) : RaiL t pl e a q1 q2 M A
def RaiG (t : List UInt8) (pl : Int) (e : List Nd) (a i : Nat) : Pos (List Nd) → Prop
  | .ok (E, j) => ∃ A, A ≤ t.length ∧ skp t A = j ∧ RaiL t pl e a 0 pl E A
  | .error x => ∃ M A, A ≤ t.length + 1 ∧ M.length ≤ e.length + (t.length - i) + 1 ∧ x.2 ≠ 0 ∧ RaiL t pl e a x.2 x.1 M A
theorem RaiL.of {t : List UInt8} (pl : Int) {k : Kd} {i : Nat} {o : Pos (List Nd)} (h : Rs t k i o) : ∀ e a, k = .rai e → skp t a = i → a ≤ t.length → RaiG t pl e a i o := by
  induction h with
  | @rai0 e i h =>
    intro e' a hk hi ha
    cases hk
    subst hi
    have := skp_max t a
    exact ⟨skp t a, by omega, skp_skp t a, .stop h⟩
  | @raiX e i x h h1 =>
    intro e' a hk hi ha
    cases hk
    subst hi
    have hn := sg_nxt (by decide) (by decide) h
    have hlt := lt_of_word (t := t) (i := skp t a) (by rw [h]; simp)
    rw [hn] at h1
    have m1 := skp_max t (skp t a + 1)
    have m2 := skp_max t (skp t (skp t a + 1) + 1)
    exact ⟨_, _, by omega, by simp only [List.length_cons]; omega, (by rcases numP_er h1 with q | q <;> rw [q] <;> simp), .err h h1⟩
  | @raiN e i n j o h h1 h2 ih =>
    intro e' a hk hi ha
    cases hk
    subst hi
    have hn := sg_nxt (by decide) (by decide) h
    have hlt := lt_of_word (t := t) (i := skp t a) (by rw [h]; simp)
    rw [hn] at h1
    obtain ⟨q1, q2, q3, q4, q5, q6⟩ := numP_ok h1
    have hd := dig_nxt q6
    have l1 := (digP_lt q6).1
    have g1 := skp_ge t (skp t a + 1)
    have := ih ((10, [], (n : Int)) :: e) (skp t (skp t a + 1) + 1) rfl (by rw [q3, hd]) (by omega)
    cases o with
    | ok p =>
      obtain ⟨E, j2⟩ := p
      obtain ⟨A, r1, r2, r3⟩ := this
      exact ⟨A, r1, r2, .step h h1 r3⟩
    | error x =>
      obtain ⟨M, A, r1, r2, r3, r4⟩ := this
      exact ⟨M, A, r1, by simp only [List.length_cons] at r2; omega, r3, .step h h1 r4⟩
  | levE _ _ _ => intro e a hk; cases hk
  | levO _ _ _ _ _ => intro e a hk; cases hk
  | raiE _ _ => intro e a hk; cases hk
  | raiO _ _ _ _ => intro e a hk; cases hk
  | bin0 _ => intro e a hk; cases hk
  | binE _ _ _ => intro e a hk; cases hk
  | binO _ _ _ _ _ => intro e a hk; cases hk
  | atom _ => intro e a hk; cases hk
  | brE _ _ _ => intro e a hk; cases hk
  | brX _ _ _ _ => intro e a hk; cases hk
  | brO _ _ _ _ => intro e a hk; cases hk
end Go.Proofs.YtfnonogemgnlhaaDoor

/-
  The reference's reader: operations with two operands, whole expressions. Conditions: the text is not too long.
-/
set_option maxHeartbeats 8000000
namespace Go.Proofs.YtfnonogemgnlhaaDoor
open Go.Vw
attribute [local irreducible] awp awpL awpR

theorem opOf_nxt {t : List UInt8} {r i : Nat} {op : Int} (h : opOf r (word t i) = some op) : nxt t i = skp t (i + 1) := by
  unfold opOf at h
  repeat' split at h
  all_goals first | (rename_i hw; exact sg_nxt (by decide) (by decide) hw) | cases h
inductive BinL (t : List UInt8) (r : Nat) (pl : Int) : List Nd → Nat → Int → Int → List Nd → Nat → Prop where
  | stop {e : List Nd} {i : Nat} (h : opOf r (word t i) = none) : BinL t r pl e i 0 pl e i
  | err {e : List Nd} {i : Nat} {op : Int} {M : List Nd} {a' : Nat} {x : PErr} (h : opOf r (word t i) = some op) (hx : x.2 ≠ 0) (ha : a' ≤ t.length + 1) (hM : M.length ≤ 1000002) (h1 : RetB Tryd.prog 24 (binA (r + 1 + 1)) (lookB (rW t (i + 1) 0 pl)) (.d (ndsD M)) (lookB (rW t a' x.2 x.1))) : BinL t r pl e i x.2 x.1 ((op, [], (0 : Int)) :: (e ++ M)) (skp t a')
  | step {e : List Nd} {i : Nat} {op : Int} {e2 : List Nd} {a' : Nat} {q1 q2 : Int} {M : List Nd} {Z : Nat} (h : opOf r (word t i) = some op) (ha : a' ≤ t.length) (he : e2.length + i + 1 ≤ skp t a') (h1 : RetB Tryd.prog 24 (binA (r + 1 + 1)) (lookB (rW t (i + 1) 0 pl)) (.d (ndsD e2)) (lookB (rW t a' 0 pl))) (h2 : BinL t r pl ((op, [], (0 : Int)) :: (e ++ e2)) (skp t a') q1 q2 M Z) : BinL t r pl e i q1 q2 M Z
def BinG (t : List UInt8) (r : Nat) (pl : Int) (e : List Nd) (i : Nat) : Pos (List Nd) → Prop
  | .ok (E, j) => BinL t r pl e i 0 pl E j
  | .error x => ∃ M Z, Z ≤ t.length + 1 ∧ M.length ≤ e.length + (t.length - i) + 2 ∧ x.2 ≠ 0 ∧ BinL t r pl e i x.2 x.1 M Z
theorem BinL.of {t : List UInt8} (hl : t.length < 1000000) (r0 : Nat) (pl : Int) (i0 : Nat) (IH : ∀ b o, i0 < b → b ≤ t.length → Rs t (.lev (r0 + 1)) (skp t b) o → RdR 24 (binA (r0 + 1 + 1)) t b pl o) {k : Kd} {i : Nat} {o : Pos (List Nd)} (h : Rs t k i o) : ∀ e, k = .bin r0 e → At t i → i0 ≤ i → BinG t r0 pl e i o := by
  induction h with
  | @bin0 r e i h =>
    intro e' hk hi h0
    cases hk
    exact .stop h
  | @binE r e i op x h h1 _ =>
    intro e' hk hi h0
    cases hk
    have hlt := opOf_lt h
    have hn := opOf_nxt h
    have hx : x.2 ≠ 0 := by have g : ErrIn t (nxt t i) x := h1.goes (at_nxt t i); have := g.2.2.2; omega
    rw [hn] at h1
    obtain ⟨M, a', b1, b2, b3⟩ := IH (i + 1) _ (by omega) (by omega) h1
    have hm := skp_max t a'
    have hge := skp_ge t (i + 1)
    exact ⟨_, _, by omega, by simp only [List.length_cons, List.length_append]; omega, hx, .err h hx b1 (by omega) b3⟩
  | @binO r e i op e2 j o h h1 h2 _ ih =>
    intro e' hk hi h0
    cases hk
    have hlt := opOf_lt h
    have hn := opOf_nxt h
    have g : Goes t (.lev (r0 + 1)) (nxt t i) (.ok (e2, j)) := h1.goes (at_nxt t i)
    have g1 := g.1
    have g2 := g.2.1
    have g3 := g.2.2.1
    simp only [Kd.pre] at g3
    rw [hn] at h1 g2 g3
    obtain ⟨a', b1, b2, b3⟩ := IH (i + 1) _ (by omega) (by omega) h1
    have hge := skp_ge t (i + 1)
    have gj := g1.le
    have q := ih _ rfl g1 (by omega)
    subst b2
    cases o with
    | ok p =>
      obtain ⟨E, j2⟩ := p
      exact .step h b1 (by omega) b3 q
    | error x =>
      obtain ⟨M, Z, r1, r2, r3, r4⟩ := q
      simp only [List.length_cons, List.length_append] at r2
      exact ⟨M, Z, r1, by omega, r3, .step h b1 (by omega) b3 r4⟩
  | levE _ _ _ => intro e hk; cases hk
  | levO _ _ _ _ _ => intro e hk; cases hk
  | raiE _ _ => intro e hk; cases hk
  | raiO _ _ _ _ => intro e hk; cases hk
  | rai0 _ => intro e hk; cases hk
  | raiX _ _ => intro e hk; cases hk
  | raiN _ _ _ _ => intro e hk; cases hk
  | atom _ => intro e hk; cases hk
  | brE _ _ _ => intro e hk; cases hk
  | brX _ _ _ _ => intro e hk; cases hk
  | brO _ _ _ _ => intro e hk; cases hk
end Go.Proofs.YtfnonogemgnlhaaDoor

/-
  Functions that use up the blocks they are lent, and hand back data; a closure put off and a panic among them. Conditions: the table of types is the program's.
-/
namespace Go.Vw
open Go.RowKit

structure RetL (P : Program) (f : FuncId) (xs : List V) (B : Nat → Option Blk) (y : D) : Prop where
  enters : Enters P f
  run : ∀ (io : Nat → Option Nat) (F : Nat → Prop) (w : World) (vs : Array Value), (∀ b, F b → b < w.heap.size) → vs.size = xs.length → VRT ⟨io, lnO B⟩ F w (fun i => vs[i]?) 0 xs → BsR (OwnA B io) w.heap.size io F w B →
    Calls P f vs w fun e w' => ∃ v F', e = .returned v ∧ Kept (OwnA B io) w w' ∧ (∀ b, F b → F' b) ∧ (∀ b, F' b → b < w'.heap.size ∧ (F b ∨ w.heap.size ≤ b ∨ OwnA B io b)) ∧ DR F' w' y v

section
variable {X : Ctx} {all : Array Oper} {Q : Exit → St → Prop} {s : St} {o : Oper} {rest : List Oper}
theorem clL2 {Pg : Program} {c : Call} {caps : List V} {d : Tmp} {f : FuncId} {xs : List V} {bs : List (Nat × Blk)} {y : D} (hcf : calleeIs s o.op f = true) (hop : o.op = .call c) (hc : calleeOf s c = some (f, caps)) (hdst : o.dst = some d) (hg : gd all s o = some true) (hd : dstOk X.N (some d) = true) (hcov : (keysOk bs (V.refsL xs) && coverR bs bs) = true) (le : LeVT (c.args.toList.map s.opd ++ caps) xs) (hB : AllB s bs) (hP : X.P = Pg) : RetL Pg f xs (lookB bs) y → awpL X all rest Q ((s.subs (bs.map (·.1))).put (some d) (.d y)) → awpL X all (o :: rest) Q s := fun hr k io F a w hs => by
  subst hP
  simp only [Bool.and_eq_true] at hcov
  obtain ⟨c1, c2⟩ := hcov
  refine wpList_cons ?_
  obtain ⟨vs, h1, h2, h3⟩ := run_call (P := X.P) (operands_of (all := all) (fun t _ => hs.tm t)) hop hc hr.enters
  unfold opWp
  rw [if_pos (gd_sound (fun t _ => hs.tm t) hg)]; left
  unfold Oper.wp; rw [h1]
  simp only [Oper.upon]
  have hB' : ∀ k b, lookB bs k = some b → s.blk k = some b := fun k b hk => (lookB_of hB k b hk).1
  have hln : ∀ k, lookB bs k ≠ none → s.ln k ≤ lnO (lookB bs) k := fun k hk => by
    obtain ⟨b, hb⟩ := Option.ne_none_iff_exists'.1 hk
    rw [lnO_of hb, ln_of (hB' k b hb)]; exact Nat.le_refl _
  have hargs : VRT ⟨io, lnO (lookB bs)⟩ F w (fun i => vs[i]?) 0 xs := VRT.agree (io := s.keys io) _ _ _ (fun k hk => ⟨rfl, hln k (hasKey_ne (keysOk_spec c1 k hk))⟩) (le.2 _ _ _ _ _ h3)
  have hbl := hs.lendB hB' (fun k b hk j hj => coverR_spec c2 _ (lookB_mem hk) j hj)
  refine (hr.run io F w vs (fun b h => (hs.ff b h).1) (by rw [h2, le.1]) hargs hbl).mono fun e w' ⟨v, F', he, g, g2, g3, g4⟩ => ?_
  subst he
  have hA : ∀ c, OwnA (lookB bs) io c → (X.A c ∨ X.w0.heap.size ≤ c) ∧ ¬ F c := fun c ⟨k, hk, e⟩ => by
    obtain ⟨b, hb⟩ := Option.ne_none_iff_exists'.1 hk
    have := (hs.bl k b (hB' k b hb)).notF e
    exact ⟨this.2.1, this.1⟩
  have hoth : ∀ j c, (s.subs (bs.map (·.1))).blk j ≠ none → io j = some c → ¬ OwnA (lookB bs) io c := fun j c hj e ⟨k, hk, e'⟩ => by
    obtain ⟨b0, hb0⟩ := Option.ne_none_iff_exists'.1 hj
    obtain ⟨q1, b1, q2⟩ := subs_blk _ hb0
    obtain ⟨b, hb⟩ := Option.ne_none_iff_exists'.1 hk
    have := hs.inj j k c (by rw [q2]; simp) (by rw [hB' k b hb]; simp) e e'
    subst this
    exact q1 (List.mem_map.2 ⟨_, lookB_mem hb, rfl⟩)
  have h0 := (hs.loses (bs.map (·.1))).later g hA hoth
  -- the data's area grows
  have hst : Stays F w' w' := fun _ _ => rfl
  have hi : ∀ k, ((s.subs (bs.map (·.1))).keys io).io k = ((s.subs (bs.map (·.1))).keys io).io k ∧ ((s.subs (bs.map (·.1))).keys io).ln k ≤ ((s.subs (bs.map (·.1))).keys io).ln k := fun k => ⟨rfl, Nat.le_refl _⟩
  have hsr : SR X io F' (s.subs (bs.map (·.1))) a w' := by
    refine ⟨h0.kept, fun t => VR.mono hi g2 hst (Shapes.refl _) _ _ (h0.tm t), h0.nt, DfR.mono hi g2 hst (Shapes.refl _) _ _ h0.df, fun k b hk => ?_, h0.inj, fun b hb => ?_, fun b hb => g2 b (h0.f0 b hb), h0.st⟩
    · refine BR.mono hi g2 hst (Shapes.refl _) (fun c o' e1 e2 e3 => ⟨e2, fun h => ?_⟩) (h0.bl k b hk)
      obtain ⟨q1, q2⟩ := g3 c h
      have hlt : c < w.heap.size := ((hs.loses (bs.map (·.1))).bl k b hk).notF e1 |>.2.2
      rcases q2 with q | q | q
      · exact e3 q
      · omega
      · exact hoth k c (by rw [hk]; simp) e1 q
    · obtain ⟨q1, q2⟩ := g3 b hb
      refine ⟨q1, ?_⟩
      rcases q2 with q | q | q
      · exact (hs.ff b q).2
      · exact .inr (.inl (Nat.le_trans hs.kept.size q))
      · rcases (hA b q).1 with q | q
        · exact .inr (.inr q)
        · exact .inr (.inl q)
  rw [hdst]
  exact k io F' _ _ (hsr.put (dstOk_sound hd) (by simpa only [VR] using g4))
end
theorem wL {Pg : Program} {f : FuncId} {xs : List V} {bs : List (Nat × Blk)} {y : D} {G P : Prop} (hr : RetL Pg f xs (lookB bs) y) (k : G) (h : RetL Pg f xs (lookB bs) y → G → P := by
  first
  | (show _ → _ → awpL _ _ _ _ _
     first
     | exact Go.Vw.clL2 Go.Vw.tt rfl rfl rfl rfl rfl rfl Go.Vw.leVT Go.Vw.allB rfl
     | exact Go.Vw.clL2 (Nat.beq_refl _) rfl rfl rfl rfl rfl rfl Go.Vw.leVT Go.Vw.allB rfl)
  | fail) : P := h hr k

/-! ## A function that puts off a closure and hands back data -/

def OneD (ys : List D) (y : D) : Prop := (∃ x, ys = [x] ∧ LeD x y) ∨ (ys.length ≠ 1 ∧ ∃ zs, y = .tup zs ∧ LeT ys zs)
def endL (T : TypeId → Option TyD) (P : Program) (fn : Func) (y : D) : Exit → St → Prop
  | .ret, s => ∃ g caps bd bd' ds, s.dfs = [(g, caps)] ∧ DefC P g caps bd .returning .returning bd' ∧ AllB s bd ∧ (keysOk bd (V.refsL caps) && coverR bd bd && keysIn bd [] bd') = true ∧ (∃ ys, resAll T (s.over bd') fn.results.toList = some ys ∧ allD ys = some ds) ∧ OneD ds y
  | .panic c, s => ∃ u u' g caps bd bd' ds, c = thrown u ∧ s.dfs = [(g, caps)] ∧ settle u' = .returning ∧ DefC P g caps bd (.panicking (thrown u)) u' bd' ∧ AllB s bd ∧ (keysOk bd (V.refsL caps) && coverR bd bd && keysIn bd [] bd') = true ∧ (∃ ys, resAll T (s.over bd') fn.results.toList = some ys ∧ allD ys = some ds) ∧ OneD ds y
  | _, _ => False
theorem retL_of_awpD {P : Program} {T : TypeId → Option TyD} (hT : TabOk P T) {f : FuncId} {fn : Func} {c : Code} (ks : List Nat) (hf : P.funcs[f]? = some fn) (hname : (fn.name == "runtime.NumGoroutine") = false) (hb : fn.body = some c) {xs : List V} {bs : List (Nat × Blk)} {y : D} (hn : xs.length ≤ fn.ntmps)
    (h : ∀ w0 F0 A io0, awp ⟨P, T, hT, fn.ntmps, w0, A, F0, ks, io0⟩ c (endL T P fn y) (St.initB xs bs)) : RetL P f xs (lookB bs) y := by
  refine ⟨⟨fn, hf, hname, by rw [hb]; rfl⟩, fun io F w vs hF hl hv hbs => ?_⟩
  refine calls_of_wp_defers hf hb ?_
  refine wp_mono (h w F _ io io F _ w (sr_initB hT (ks := ks) hl hn hF hv hbs)) fun e a' w' ⟨s', io', F', hq, hs'⟩ => ?_
  have key : ∀ (u u' : FrameMode) (g : FuncId) (caps : List V) (bd bd' : List (Nat × Blk)) (ds : List D), u ≠ .run → settle u' = .returning → s'.dfs = [(g, caps)] → DefC P g caps bd u u' bd' → AllB s' bd → (keysOk bd (V.refsL caps) && coverR bd bd && keysIn bd [] bd') = true → (∃ ys, resAll T (s'.over bd') fn.results.toList = some ys ∧ allD ys = some ds) → OneD ds y → Leaves P fn a'.tmps (fun e w' => ∃ v F', e = .returned v ∧ Kept (OwnA (lookB bs) io) w w' ∧ (∀ b, F b → F' b) ∧ (∀ b, F' b → b < w'.heap.size ∧ (F b ∨ w.heap.size ≤ b ∨ OwnA (lookB bs) io b)) ∧ DR F' w' y v) a'.defers u w' := fun u u' g caps bd bd' ds hne hset hdf hD hB hcv ⟨ys, hys, hds⟩ hone => by
    simp only [Bool.and_eq_true] at hcv
    obtain ⟨⟨d1, d2⟩, d3⟩ := hcv
    have hdf' := hs'.df
    rw [hdf] at hdf'
    obtain ⟨arr, rest, e1, e2, e3, e4⟩ := hdf'
    have e4 : rest = [] := e4
    subst e4
    rw [e1]
    have hB' : ∀ k b, lookB bd k = some b → s'.blk k = some b := fun k b hk => (lookB_of hB k b hk).1
    have hln' : ∀ k, lookB bd k ≠ none → s'.ln k ≤ lnO (lookB bd) k := fun k hk => by
      obtain ⟨b, hb⟩ := Option.ne_none_iff_exists'.1 hk
      rw [lnO_of hb, ln_of (hB' k b hb)]; exact Nat.le_refl _
    have hargs : VRT ⟨io', lnO (lookB bd)⟩ F' w' (fun i => arr[i]?) 0 caps := VRT.agree (io := s'.keys io') _ _ _ (fun k hk => ⟨rfl, hln' k (hasKey_ne (keysOk_spec d1 k hk))⟩) (VRA.toT e3)
    have hbl := hs'.lendB hB' (fun k b hk j hj => coverR_spec d2 _ (lookB_mem hk) j hj)
    refine leaves_cons hne (f := g) (args := arr) ?_ ?_
    · have := run_enter hD.enters w' arr
      simp only [invoke]
      simpa using this
    · refine (hD.run io' F' w' arr (fun b h => (hs'.ff b h).1) e2 hargs hbl).mono fun e u2 w2 ⟨hu2, v, io2, F2, he, g1, g2, g3, g4, g5, g6⟩ => ?_
      subst he hu2
      simp only
      obtain ⟨key, _⟩ := hs'.afterB [] hB' hD.keep hD.ln hD.refsB (fun k hk => by
        obtain ⟨b, hb⟩ := Option.ne_none_iff_exists'.1 hk
        exact keysIn_spec d3 _ (lookB_mem hb)) (fun k hk => by simp at hk) g1 g2 g3 g4 g6
      rw [hset]
      obtain ⟨vs', hvs, hl', hd'⟩ := resAll_sound hT key _ hys
      have hvd := VRT.ofD hds hd'
      have hlen : vs'.length = ds.length := by rw [hl', allD_map hds]; simp
      refine ⟨_, run_results fn hvs, _, F2, rfl, key.kept, key.f0, key.ff, ?_⟩
      rcases hone with ⟨x, rfl, hx⟩ | ⟨hne1, zs, rfl, hz⟩
      · obtain ⟨v, rfl⟩ := List.length_eq_one_iff.1 (show vs'.length = 1 by simpa using hlen)
        simp only [DRT] at hvd
        obtain ⟨⟨u, hu, hd2⟩, _⟩ := hvd
        simp at hu; subst hu
        exact hx _ _ _ hd2
      · have hn1 : vs'.length ≠ 1 := by rw [hlen]; exact hne1
        rw [dif_neg hn1]
        simp only [DR]
        exact ⟨vs'.toArray, rfl, by simp; rw [hlen, hz.1], hz.2 _ _ _ _ (by simpa using hvd)⟩
  cases e with
  | ret =>
    obtain ⟨g, caps, bd, bd', ds, q1, q2, q3, q4, q5, q6⟩ := hq
    exact key .returning .returning g caps bd bd' ds (by simp) rfl q1 q2 q3 q4 q5 q6
  | panic ch =>
    obtain ⟨u, u', g, caps, bd, bd', ds, q0, q1, qs, q2, q3, q4, q5, q6⟩ := hq
    subst q0
    exact key _ u' g caps bd bd' ds (by simp) qs q1 q2 q3 q4 q5 q6
  | _ => exact hq.elim
end Go.Vw
namespace Go.Vw
open Go.RowKit
/-! ## Interface values -/
theorem run_assert_same {P : Program} {w : World} {t xT : TypeId} {d : TypeDesc} (v : Value) (hu : P.underlying t = some d) (hd : isIfcD d = false) : (Instr.typeAssert (.iface t v) xT t true).run P w = .ok (.tuple #[v, .bool true]) w := by
  cases d <;> first | (cases hd; done) | simp [Instr.typeAssert, run_underlying hu]
theorem run_nilIface_eq {P : Program} {w : World} {ti : TypeId} {ms : Array (String × TypeId)} (hi : P.underlying ti = some (.interface ms)) : (binOp .eql ti .nilIface .nilIface).run P w = .ok (.bool true) w := by
  have h : ∀ d : Nat, (Op.equalIn (d + 1) ti .nilIface .nilIface).run P w = .ok true w := fun d => by simp [Op.equalIn, run_underlying hi]
  simp only [binOp]
  simp [Op.equal, Op.maxDepth, h 9999]
theorem run_iface_nil {P : Program} {w : World} {ti u : TypeId} {x : Value} {ms : Array (String × TypeId)} (hi : P.underlying ti = some (.interface ms)) : (binOp .eql ti (.iface u x) .nilIface).run P w = .ok (.bool false) w := by
  have h : ∀ d : Nat, (Op.equalIn (d + 1) ti (.iface u x) .nilIface).run P w = .ok false w := fun d => by simp [Op.equalIn, run_underlying hi]
  simp only [binOp]
  simp [Op.equal, Op.maxDepth, h 9999]
section
variable {X : Ctx} {all : Array Oper} {Q : Exit → St → Prop} {s : St} {o : Oper} {rest : List Oper}
theorem stepIsNil {t t2 : TypeId} {x : Operand} {cv : Value} {d : Tmp} {b : Bool} (hop : o.op = .binOp .eql t x (.const cv) t2) (hdst : o.dst = some d) (hy : cv = .nilIface) (hx : (s.opd x = .d (.raw .nilIface) ∧ b = true) ∨ ∃ u z, s.opd x = .d (.ifc u z) ∧ b = false) (hg : gd all s o = some true) (hd : dstOk X.N (some d) = true) (hi : X.P.isIface t = true) (k : awpL X all rest Q (s.put (some d) (.d (.bool b)))) : awpL X all (o :: rest) Q s := fun io F a w hs => by
  obtain ⟨dst, op, ty, pos, after, g⟩ := o
  cases hop; cases hdst
  obtain ⟨ms, hu⟩ := underlying_of_isIface hi
  subst hy
  have hvx := hs.opd x
  have hr : (execOp a.eval ⟨some d, .binOp .eql t x (.const .nilIface) t2, ty, pos, after, g⟩).run X.P w = .ok (.value (.bool b)) w := by
    rcases hx with ⟨h1, rfl⟩ | ⟨u, z, h1, rfl⟩
    · rw [h1] at hvx
      simp only [VR, DR] at hvx
      simp [execOp, hvx, show a.eval (.const .nilIface) = .nilIface from rfl, eqGuard, run_nilIface_eq hu]
    · rw [h1] at hvx
      simp only [VR, DR] at hvx
      obtain ⟨v, e, _⟩ := hvx
      simp [execOp, e, show a.eval (.const .nilIface) = .nilIface from rfl, eqGuard, run_iface_nil hu]
  refine wpList_cons (opWp_value (gd_sound (fun t _ => hs.tm t) hg) hr ?_)
  exact k io F _ w (hs.put (dstOk_sound hd) (by simp only [VR, DR]))
theorem stepAssert {t xT : TypeId} {x : Operand} {td : TyD} {d : Tmp} {y : D} (hop : o.op = .typeAssert x xT t true) (hdst : o.dst = some d) (ht : X.T t = some td) (hi : isIfcD td.desc = false) (hx : s.opd x = .d (.ifc t y)) (hg : gd all s o = some true) (hd : dstOk X.N (some d) = true) (k : awpL X all rest Q (s.put (some d) (.d (.tup [y, .bool true])))) : awpL X all (o :: rest) Q s := fun io F a w hs => by
  obtain ⟨dst, op, ty, pos, after, g⟩ := o
  cases hop; cases hdst
  have hu := (X.ok _ _ ht).und
  have hvx := hs.opd x
  rw [hx] at hvx
  simp only [VR, DR] at hvx
  obtain ⟨v, e, hv⟩ := hvx
  have hr : (execOp a.eval ⟨some d, .typeAssert x xT t true, ty, pos, after, g⟩).run X.P w = .ok (.value (.tuple #[v, .bool true])) w := by
    simp only [execOp, e, Sem.run_bind, Sem.run_pure, Result.andThen_ok, run_assert_same v hu hi]
  refine wpList_cons (opWp_value (gd_sound (fun t _ => hs.tm t) hg) hr ?_)
  refine k io F _ w (hs.put (dstOk_sound hd) ?_)
  simp only [VR, DR, DRT]
  exact ⟨#[v, .bool true], rfl, rfl, ⟨v, by simp, hv⟩, ⟨.bool true, by simp, rfl⟩, trivial⟩
end
theorem wI {G P : Prop} (k : G) (h : G → P := by
  first
  | (show _ → awpL _ _ _ _ _
     first
     | exact Go.Vw.stepIsNil rfl rfl rfl (.inl ⟨rfl, rfl⟩) rfl rfl (by kernel_rfl)
     | exact Go.Vw.stepIsNil rfl rfl rfl (.inr ⟨_, _, rfl, rfl⟩) rfl rfl (by kernel_rfl)
     | exact Go.Vw.stepAssert rfl rfl rfl rfl rfl rfl rfl)
  | fail) : P := h k
end Go.Vw
