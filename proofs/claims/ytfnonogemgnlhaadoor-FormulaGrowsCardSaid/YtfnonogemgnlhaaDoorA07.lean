/-
  Contracts of functions of the program, and the layer that they are walked with: F09 F16 FmK F20 F21 VW VX Limbs LimbsB LimbsC Ints Rats RatsQ RatsC RatsD RatsM Nats NatsB NatsC NatsD NatsE NatsF NatsG Itv VY FmL F23 VUe VUh VT VUc VUi F29. Conditions: as each says.
-/
import Derived.Laws.StructEq
import Derived.Deep.Slices
import Derived.Carry
import Derived.OpenShut
import Derived.WalkKit
import Derived.ProofKit
import Derived.Deep.DeepHandedRow
import Derived.Lib.LaidTab
import Derived.Test.YtfnonogemgnlhaaDoorA06
/-
  The program's parser: the whole text. Conditions: the text is not too long.
-/
set_option linter.unusedVariables false
set_option linter.unusedSimpArgs false
set_option maxHeartbeats 8000000
namespace Go.Proofs.YtfnonogemgnlhaaDoor
open Go.Vw
attribute [local irreducible] awp awpL awpR

abbrev fmT : TypeId := 25
abbrev ftT : TypeId := 44
abbrev frB (a b c d : D) : List (Nat × Blk) := [(0, .box fmT [.d a, .d b]), (1, .box ftT [.d c, .d d])]
theorem clos_nil (a b c d : D) : DefC Tryd.prog 34 [.ptr 0 0, .ptr 1 0] (frB a b c d) .returning .returning (frB a b c d) := by
  refine defC_of_awp tab [0, 1] Tryd.func34 rfl rfl rfl rfl rfl rfl (.nil) rfl (Nat.le_of_ble_eq_true rfl) rfl (⟨Nat.le_refl _, Nat.le_refl _, trivial⟩) (fun w0 F0 A io0 => ?_)
  repeat' (first | refine wG ?_ | refine wI ?_ | refine rgX 7 3 [] ?_ | refine wR ?_ | refine wS ?_ ?_ <;> intro _ | refine wB ?_ ?_ | refine wF ?_)
  all_goals first | exact leVT | exact ⟨rfl, rfl, trivial⟩
theorem clos_got (a b c d : D) (x : PErr) : DefC Tryd.prog 34 [.ptr 0 0, .ptr 1 0] (frB a b c d) (.panicking (thrown (ftV x))) (.panicking [{ v := ftV x, recovered := true }]) (frB (.str []) .nils (.int .i64 x.1) (.int .i64 x.2)) := by
  refine defC_of_awp tab [0, 1] Tryd.func34 rfl rfl rfl rfl rfl rfl (.got (x := .agg [.int .i64 x.1, .int .i64 x.2]) rfl) rfl (Nat.le_of_ble_eq_true rfl) rfl (⟨Nat.le_refl _, Nat.le_refl _, trivial⟩) (fun w0 F0 A io0 => ?_)
  repeat' (first | refine wG ?_ | refine wI ?_ | refine rgX 7 3 [] ?_ | refine wR ?_ | refine wS ?_ ?_ <;> intro _ | refine wB ?_ ?_ | refine wF ?_)
  all_goals first | exact leVT | exact ⟨rfl, rfl, trivial⟩
inductive Fml (t : List UInt8) : Except PErr (List UInt8 × List Nd) → Prop where
  | name {x} (h : nameP t (skp t 0) = .error x) : Fml t (.error x)
  | tilde {s i x} (h : nameP t (skp t 0) = .ok (s, i)) (h1 : mustP t 126 i = .error x) : Fml t (.error x)
  | right {s i j x} (h : nameP t (skp t 0) = .ok (s, i)) (h1 : mustP t 126 i = .ok j) (h2 : Rc t (.lev 0) j (.error x)) : Fml t (.error x)
  | rest {s i j e k} (h : nameP t (skp t 0) = .ok (s, i)) (h1 : mustP t 126 i = .ok j) (h2 : Rc t (.lev 0) j (.ok (e, k))) (h3 : word t k ≠ []) : Fml t (.error (k, 3))
  | done {s i j e k} (h : nameP t (skp t 0) = .ok (s, i)) (h1 : mustP t 126 i = .ok j) (h2 : Rc t (.lev 0) j (.ok (e, k))) (h3 : word t k = []) : Fml t (.ok (s, e))
def fmlD : Except PErr (List UInt8 × List Nd) → D
  | .error x => .tup [.agg [.str [], .nils], .agg [.int .i64 x.1, .int .i64 x.2]]
  | .ok (s, e) => .tup [.agg [.str s, ndsD e], .agg [.int .i64 0, .int .i64 0]]
theorem parser_formula (t : List UInt8) (hl : t.length < 1000000) (o : Except PErr (List UInt8 × List Nd)) (h : Fml t o) : RetL Tryd.prog 21 [.ptr 600 0] (lookB [(600, psB t 0 0)]) (fmlD o) := by
  have n := parser_next t 0 0 (Nat.zero_le _) (by omega)
  have h0 : At t (skp t 0) := ⟨runE_le _ (Nat.zero_le _), runE_idem (Nat.zero_le _)⟩
  have l0 := h0.le
  cases h with
  | @name x h =>
    have m := parser_nameE t _ x l0 h
    generalize skp t 0 = i0 at *
    clear h0 h
    refine retL_of_awpD tab [600] Tryd.func21 rfl rfl (Nat.le_of_ble_eq_true rfl) (fun w0 F0 A io0 => ?_)
    repeat' (first | refine stopA 1 tt ?_ | refine wX ?_ | refine wE ?_ | refine wG ?_ | refine wR ?_ | refine wS ?_ ?_ <;> intro _)
    refine stopOut ?_
    refine awp_rename [(0, .ptr 600 0), (2, .ptr 2 0), (3, .ptr 3 0)] [(600, psB t 0 0), (2, .box fmT [.d (.str []), .d .nils]), (3, .box ftT [.d (.int .i64 0), .d (.int .i64 0)])] [(2, 0), (3, 1)] ⟨rfl, rfl, rfl, rfl⟩ ⟨rfl, rfl, rfl, trivial⟩ ?_
    repeat' (first | refine wX ?_ | refine wE ?_ | refine wG ?_ | refine wP m ?_ | refine wD [] n ?_ | refine wR ?_ | refine wS ?_ ?_ <;> intro _)
    exact ⟨_, _, _, _, _, _, _, rfl, rfl, rfl, clos_got _ _ _ _ x, ⟨rfl, rfl, trivial⟩, rfl, ⟨_, rfl, rfl⟩, .inr ⟨by simp, _, rfl, leT⟩⟩
  | @tilde s i x h h1 =>
    have m := parser_name t _ i s l0 (by omega) h
    have hi := (nameP_ok h).1.le
    have m1 := parser_mustE t 126 i x hi h1
    generalize skp t 0 = i0 at *
    clear h0 h h1
    refine retL_of_awpD tab [600] Tryd.func21 rfl rfl (Nat.le_of_ble_eq_true rfl) (fun w0 F0 A io0 => ?_)
    repeat' (first | refine stopA 1 tt ?_ | refine wX ?_ | refine wE ?_ | refine wG ?_ | refine wR ?_ | refine wS ?_ ?_ <;> intro _)
    refine stopOut ?_
    refine awp_rename [(0, .ptr 600 0), (2, .ptr 2 0), (3, .ptr 3 0)] [(600, psB t 0 0), (2, .box fmT [.d (.str []), .d .nils]), (3, .box ftT [.d (.int .i64 0), .d (.int .i64 0)])] [(2, 0), (3, 1)] ⟨rfl, rfl, rfl, rfl⟩ ⟨rfl, rfl, rfl, trivial⟩ ?_
    repeat' (first | refine wX ?_ | refine wE ?_ | refine wG ?_ | refine wP m1 ?_ | refine wD [] n ?_ | refine wD [] m ?_ | refine wR ?_ | refine wS ?_ ?_ <;> intro _)
    exact ⟨_, _, _, _, _, _, _, rfl, rfl, rfl, clos_got _ _ _ _ x, ⟨rfl, rfl, trivial⟩, rfl, ⟨_, rfl, rfl⟩, .inr ⟨by simp, _, rfl, leT⟩⟩
  | @right s i j x h h1 h2 =>
    have m := parser_name t _ i s l0 (by omega) h
    have hi := (nameP_ok h).1.le
    have m1 := parser_must t 126 i j hi (by omega) h1
    have hj := (mustP_ok h1).1
    have m2 : PanB Tryd.prog 38 [.ptr 600 0, .d (.int .i64 (0 : Nat))] _ _ := parser_level t hl 0 j _ (by omega) hj h2
    generalize skp t 0 = i0 at *
    clear h0 h h1 h2
    refine retL_of_awpD tab [600] Tryd.func21 rfl rfl (Nat.le_of_ble_eq_true rfl) (fun w0 F0 A io0 => ?_)
    repeat' (first | refine stopA 1 tt ?_ | refine wX ?_ | refine wE ?_ | refine wG ?_ | refine wR ?_ | refine wS ?_ ?_ <;> intro _)
    refine stopOut ?_
    refine awp_rename [(0, .ptr 600 0), (2, .ptr 2 0), (3, .ptr 3 0)] [(600, psB t 0 0), (2, .box fmT [.d (.str []), .d .nils]), (3, .box ftT [.d (.int .i64 0), .d (.int .i64 0)])] [(2, 0), (3, 1)] ⟨rfl, rfl, rfl, rfl⟩ ⟨rfl, rfl, rfl, trivial⟩ ?_
    repeat' (first | refine wX ?_ | refine wE ?_ | refine wG ?_ | refine wP m2 ?_ | refine wD [] n ?_ | refine wD [] m ?_ | refine wD [] m1 ?_ | refine wR ?_ | refine wS ?_ ?_ <;> intro _)
    exact ⟨_, _, _, _, _, _, _, rfl, rfl, rfl, clos_got _ _ _ _ x, ⟨rfl, rfl, trivial⟩, rfl, ⟨_, rfl, rfl⟩, .inr ⟨by simp, _, rfl, leT⟩⟩
  | @rest s i j e k h h1 h2 h3 =>
    have m := parser_name t _ i s l0 (by omega) h
    have hi := (nameP_ok h).1.le
    have m1 := parser_must t 126 i j hi (by omega) h1
    have hj := (mustP_ok h1).1
    have m2 : RetB Tryd.prog 38 [.ptr 600 0, .d (.int .i64 (0 : Nat))] _ _ _ := parser_level t hl 0 j _ (by omega) hj h2
    have hk := (h2.goes hj (.inr rfl)).1.le
    have w := parser_word t k hk
    have f := parser_fail t k 3
    generalize skp t 0 = i0 at *
    generalize word t k = v at *
    clear h0 h h1 h2
    refine retL_of_awpD tab [600] Tryd.func21 rfl rfl (Nat.le_of_ble_eq_true rfl) (fun w0 F0 A io0 => ?_)
    repeat' (first | refine stopA 1 tt ?_ | refine wX ?_ | refine wE ?_ | refine wG ?_ | refine wR ?_ | refine wS ?_ ?_ <;> intro _)
    refine stopOut ?_
    refine awp_rename [(0, .ptr 600 0), (2, .ptr 2 0), (3, .ptr 3 0)] [(600, psB t 0 0), (2, .box fmT [.d (.str []), .d .nils]), (3, .box ftT [.d (.int .i64 0), .d (.int .i64 0)])] [(2, 0), (3, 1)] ⟨rfl, rfl, rfl, rfl⟩ ⟨rfl, rfl, rfl, trivial⟩ ?_
    repeat' (first | refine wX ?_ | refine wE ?_ | refine wG ?_ | refine wP f ?_ | refine wD [] n ?_ | refine wD [] m ?_ | refine wD [] m1 ?_ | refine wD [] m2 ?_ | refine wD [] w ?_ | refine wR ?_ | refine wS ?_ ?_ <;> intro _)
    exact ⟨_, _, _, _, _, _, _, rfl, rfl, rfl, clos_got _ _ _ _ (k, 3), ⟨rfl, rfl, trivial⟩, rfl, ⟨_, rfl, rfl⟩, .inr ⟨by simp, _, rfl, leT⟩⟩
  | @done s i j e k h h1 h2 h3 =>
    have m := parser_name t _ i s l0 (by omega) h
    have hi := (nameP_ok h).1.le
    have m1 := parser_must t 126 i j hi (by omega) h1
    have hj := (mustP_ok h1).1
    have m2 : RetB Tryd.prog 38 [.ptr 600 0, .d (.int .i64 (0 : Nat))] _ _ _ := parser_level t hl 0 j _ (by omega) hj h2
    have hk := (h2.goes hj (.inr rfl)).1.le
    have w := parser_word t k hk
    rw [h3] at w
    generalize skp t 0 = i0 at *
    clear h0 h h1 h2 h3
    refine retL_of_awpD tab [600] Tryd.func21 rfl rfl (Nat.le_of_ble_eq_true rfl) (fun w0 F0 A io0 => ?_)
    repeat' (first | refine stopA 1 tt ?_ | refine wX ?_ | refine wE ?_ | refine wG ?_ | refine wR ?_ | refine wS ?_ ?_ <;> intro _)
    refine stopOut ?_
    refine awp_rename [(0, .ptr 600 0), (2, .ptr 2 0), (3, .ptr 3 0)] [(600, psB t 0 0), (2, .box fmT [.d (.str []), .d .nils]), (3, .box ftT [.d (.int .i64 0), .d (.int .i64 0)])] [(2, 0), (3, 1)] ⟨rfl, rfl, rfl, rfl⟩ ⟨rfl, rfl, rfl, trivial⟩ ?_
    repeat' (first | refine wX ?_ | refine wE ?_ | refine wG ?_ | refine wD [] n ?_ | refine wD [] m ?_ | refine wD [] m1 ?_ | refine wD [] m2 ?_ | refine wD [] w ?_ | refine wR ?_ | refine wS ?_ ?_ <;> intro _)
    exact ⟨_, _, _, _, _, rfl, clos_nil _ _ _ _, ⟨rfl, rfl, trivial⟩, rfl, ⟨_, rfl, rfl⟩, .inr ⟨by simp, _, rfl, leT⟩⟩
theorem Fml.err {t : List UInt8} {x : PErr} (h : Fml t (.error x)) : ErrIn t 0 x := by
  have h0 : At t (skp t 0) := ⟨runE_le _ (Nat.zero_le _), runE_idem (Nat.zero_le _)⟩
  cases h with
  | name h => rw [(nameP_er h).1]; exact (h0.err (.inl rfl)).mono (Nat.zero_le _)
  | tilde h h1 => rw [(mustP_er h1).1]; exact ((nameP_ok h).1.err (.inl rfl)).mono (Nat.zero_le _)
  | right h h1 h2 => exact (h2.goes (mustP_ok h1).1 (.inr rfl)).mono (Nat.zero_le _)
  | rest h h1 h2 h3 => exact ((h2.goes (mustP_ok h1).1 (.inr rfl)).1.err (.inl rfl)).mono (Nat.zero_le _)
theorem Fml.len {t : List UInt8} {s : List UInt8} {e : List Nd} (h : Fml t (.ok (s, e))) : e.length ≤ t.length ∧ 1 ≤ e.length ∧ isName s = true := by
  cases h with
  | done h h1 h2 h3 =>
    have g := h2.goes (mustP_ok h1).1 (.inr rfl)
    have g1 := g.1.le
    have g2 := g.2.2.1
    simp only [Kd.pre] at g2
    exact ⟨by omega, g.2.2.2.1, (nameP_ok h).2.2.2.2⟩
def prsO : Except PErr (List UInt8 × List Nd) → Except PErr (List UInt8 × List Nd)
  | .error x => .error x
  | .ok (s, e) => if 64 < e.length then .error (0, 2) else .ok (s, e)
def prsD : Except PErr (List UInt8 × List Nd) → D
  | .error x => .tup [.agg [.str [], .nils], .int .i64 x.1, .int .i64 x.2]
  | .ok (s, e) => .tup [.agg [.str s, ndsD e], .int .i64 0, .int .i64 0]
theorem formula_Parse (t : List UInt8) (hl : t.length ≤ 65536) (o : Except PErr (List UInt8 × List Nd)) (h : Fml t o) : Ret Tryd.prog 11 [.str t] (· = prsD (prsO o)) := by
  have f := parser_formula t (by omega) o h
  cases o with
  | error x =>
    have e := h.err
    have e2 : x.2 = 3 ∨ x.2 = 1 := e.2.2.2
    have f : RetL Tryd.prog 21 [.ptr 600 0] (lookB [(600, psB t 0 0)]) (.tup [.agg [.str [], .nils], .agg [.int .i64 x.1, .int .i64 x.2]]) := f
    show Ret _ _ _ (· = .tup [.agg [.str [], .nils], .int .i64 x.1, .int .i64 x.2])
    clear h e
    refine ret_of_awp tab Tryd.func11 rfl rfl (Nat.le_of_ble_eq_true rfl) (fun w0 F0 => ?_)
    repeat' (first | refine stopA 4 tt ?_ | refine wG ?_ | refine rgX 6 7 [] ?_ | refine wR ?_ | refine wS ?_ ?_ <;> intro _ | refine finTG ?_)
    refine stopOut ?_
    refine awp_rename [(0, .d (.str t)), (2, .ptr 2 0), (3, .d (.int .i64 0)), (4, .d (.int .i64 0)), (5, .ptr 13 0)] [(2, .box fmT [.d (.str []), .d .nils]), (13, psB t 0 0)] [(13, 600)] ⟨rfl, rfl, rfl, rfl, rfl, rfl⟩ ⟨rfl, rfl, trivial⟩ ?_
    repeat' (first | refine wG ?_ | refine wL f ?_ | refine rgX 6 7 [] ?_ | refine wR ?_ | refine wS ?_ ?_ <;> intro _ | refine finTG ?_)
    exact leT
  | ok p =>
    obtain ⟨s, e⟩ := p
    have f : RetL Tryd.prog 21 [.ptr 600 0] (lookB [(600, psB t 0 0)]) (.tup [.agg [.str s, ndsD e], .agg [.int .i64 0, .int .i64 0]]) := f
    have g := h.len
    unfold prsO
    simp only
    by_cases h64 : 64 < e.length
    · rw [if_pos h64]
      show Ret _ _ _ (· = .tup [.agg [.str [], .nils], .int .i64 0, .int .i64 2])
      clear h
      refine ret_of_awp tab Tryd.func11 rfl rfl (Nat.le_of_ble_eq_true rfl) (fun w0 F0 => ?_)
      repeat' (first | refine stopA 4 tt ?_ | refine wG ?_ | refine rgX 6 7 [] ?_ | refine wR ?_ | refine wS ?_ ?_ <;> intro _ | refine finTG ?_)
      refine stopOut ?_
      refine awp_rename [(0, .d (.str t)), (2, .ptr 2 0), (3, .d (.int .i64 0)), (4, .d (.int .i64 0)), (5, .ptr 13 0)] [(2, .box fmT [.d (.str []), .d .nils]), (13, psB t 0 0)] [(13, 600)] ⟨rfl, rfl, rfl, rfl, rfl, rfl⟩ ⟨rfl, rfl, trivial⟩ ?_
      repeat' (first | refine wG ?_ | refine wL f ?_ | refine rgX 6 7 [] ?_ | refine wR ?_ | refine wS ?_ ?_ <;> intro _ | refine finTG ?_)
      exact leT
    · rw [if_neg h64]
      show Ret _ _ _ (· = .tup [.agg [.str s, ndsD e], .int .i64 0, .int .i64 0])
      clear h
      refine ret_of_awp tab Tryd.func11 rfl rfl (Nat.le_of_ble_eq_true rfl) (fun w0 F0 => ?_)
      repeat' (first | refine stopA 4 tt ?_ | refine wG ?_ | refine rgX 6 7 [] ?_ | refine wR ?_ | refine wS ?_ ?_ <;> intro _ | refine finTG ?_)
      refine stopOut ?_
      refine awp_rename [(0, .d (.str t)), (2, .ptr 2 0), (3, .d (.int .i64 0)), (4, .d (.int .i64 0)), (5, .ptr 13 0)] [(2, .box fmT [.d (.str []), .d .nils]), (13, psB t 0 0)] [(13, 600)] ⟨rfl, rfl, rfl, rfl, rfl, rfl⟩ ⟨rfl, rfl, trivial⟩ ?_
      repeat' (first | refine wG ?_ | refine wL f ?_ | refine rgX 6 7 [] ?_ | refine wR ?_ | refine wS ?_ ?_ <;> intro _ | refine finTG ?_)
      exact leT
end Go.Proofs.YtfnonogemgnlhaaDoor

/-
  The reference's reader: the whole text. Conditions: the text is not too long.
-/
set_option maxHeartbeats 8000000
namespace Go.Proofs.YtfnonogemgnlhaaDoor
open Go.Vw
attribute [local irreducible] awp awpL awpR

inductive Fm0 (t : List UInt8) : Except PErr (List UInt8 × List Nd) → Prop where
  | name {x} (h : nameP t (skp t 0) = .error x) : Fm0 t (.error x)
  | tilde {s i x} (h : nameP t (skp t 0) = .ok (s, i)) (h1 : mustP t 126 i = .error x) : Fm0 t (.error x)
  | right {s i j x} (h : nameP t (skp t 0) = .ok (s, i)) (h1 : mustP t 126 i = .ok j) (h2 : Rs t (.lev 0) j (.error x)) : Fm0 t (.error x)
  | rest {s i j e k} (h : nameP t (skp t 0) = .ok (s, i)) (h1 : mustP t 126 i = .ok j) (h2 : Rs t (.lev 0) j (.ok (e, k))) (h3 : word t k ≠ []) : Fm0 t (.error (k, 3))
  | done {s i j e k} (h : nameP t (skp t 0) = .ok (s, i)) (h1 : mustP t 126 i = .ok j) (h2 : Rs t (.lev 0) j (.ok (e, k))) (h3 : word t k = []) : Fm0 t (.ok (s, e))
end Go.Proofs.YtfnonogemgnlhaaDoor

/-
  The grammar as a function, for given texts. Conditions: none.
-/
namespace Go.Vw
def rcF (t : List UInt8) : Nat → Kd → Nat → Option (Pos (List Nd))
  | 0, _, _ => none
  | n + 1, .lev r, i => if r < 3 then (match rcF t n (.lev (r + 1)) i with
      | some (.ok (e, j)) => rcF t n (.bin r e) j
      | some (.error x) => some (.error x)
      | none => none)
    else if r = 3 then (match rcF t n .pri i with
      | some (.ok (e, j)) => rcF t n (.rai e) j
      | some (.error x) => some (.error x)
      | none => none)
    else none
  | n + 1, .bin r e, i => match opOf r (word t i) with
      | none => some (.ok (e, i))
      | some op => match rcF t n (.lev (r + 1)) (nxt t i) with
        | some (.ok (e', j)) => rcF t n (.bin r (((op, [], (0 : Int)) :: (e ++ e')).take 65)) j
        | some (.error x) => some (.error x)
        | none => none
  | n + 1, .rai e, i => if word t i = [94] then none else some (.ok (e, i))
  | n + 1, .pri, i => if word t i = [40] then none else some (atomP t i)
theorem rcF_ok {t : List UInt8} : ∀ (n : Nat) (k : Kd) (i : Nat) (o : Pos (List Nd)), rcF t n k i = some o → Rc t k i o
  | 0, _, _, _, h => by cases h
  | n + 1, .lev r, i, o, h => by
    simp only [rcF] at h
    split at h
    · rename_i hr
      split at h
      · rename_i e j h1; exact .levO hr (rcF_ok n _ _ _ h1) (rcF_ok n _ _ _ h)
      · rename_i x h1; cases h; exact .levE hr (rcF_ok n _ _ _ h1)
      · cases h
    · split at h
      · rename_i hr
        subst hr
        split at h
        · rename_i e j h1; exact .raiO (rcF_ok n _ _ _ h1) (rcF_ok n _ _ _ h)
        · rename_i x h1; cases h; exact .raiE (rcF_ok n _ _ _ h1)
        · cases h
      · cases h
  | n + 1, .bin r e, i, o, h => by
    simp only [rcF] at h
    split at h
    · rename_i h1; cases h; exact .bin0 h1
    · rename_i op h1
      split at h
      · rename_i e' j h2; exact .binO h1 (rcF_ok n _ _ _ h2) (rcF_ok n _ _ _ h)
      · rename_i x h2; cases h; exact .binE h1 (rcF_ok n _ _ _ h2)
      · cases h
  | n + 1, .rai e, i, o, h => by
    simp only [rcF] at h
    split at h
    · cases h
    · rename_i h1; cases h; exact .rai0 h1
  | n + 1, .pri, i, o, h => by
    simp only [rcF] at h
    split at h
    · cases h
    · rename_i h1; cases h; exact .atom h1
end Go.Vw

/-
  The law's check: its two examples. Small functions of the law. Conditions: not too many nodes.
-/
set_option maxHeartbeats 8000000
namespace Go.Proofs.YtfnonogemgnlhaaDoor
open Go.Vw
attribute [local irreducible] awp awpL awpR

abbrev exA : List UInt8 := [121, 32, 126, 32, 97, 42, 98, 32, 45, 32, 97, 58, 98]
abbrev exB : List UInt8 := [121, 32, 126, 32, 97, 32, 43, 32]
abbrev exT : Ft := .bi 6 (.bi 8 (.leaf (1, [97], 0)) (.leaf (1, [98], 0))) (.bi 7 (.leaf (1, [97], 0)) (.leaf (1, [98], 0)))
theorem exA_fml : Fml exA (.ok ([121], exT.flat)) := .done (i := 2) (j := 4) (k := 13) (by rfl) (by rfl) (rcF_ok 40 _ _ _ (by rfl)) (by rfl)
theorem exB_fml : Fml exB (.error (8, 3)) := .right (s := [121]) (i := 2) (j := 4) (by rfl) (by rfl) (rcF_ok 40 _ _ _ (by rfl))
theorem exT_ok : exT.ok := by simp [Ft.ok, leafOk]; decide
theorem law09_awake : Ret Tryd.prog 10 [] (· = .bool true) := by
  have p1 : Ret Tryd.prog 11 [.str exA] (· = .tup [.agg [.str [121], ndsD exT.flat], .int .i64 0, .int .i64 0]) := formula_Parse exA (by decide) _ exA_fml
  have p2 : Ret Tryd.prog 11 [.str exB] (· = .tup [.agg [.str [], .nils], .int .i64 8, .int .i64 3]) := formula_Parse exB (by decide) _ exB_fml
  have hv : vld [121] exT.flat = true := by
    unfold vld
    rw [cnt_built.2 ⟨exT, rfl, exT_ok⟩]
    decide
  have f : Ret Tryd.prog 15 [.agg [.str [121], ndsD exT.flat]] (· = .tup [.str [121, 32, 126, 32, 97, 32, 42, 32, 98, 32, 45, 32, 97, 58, 98], .int .i64 0]) := formula_FormatY [121] exT.flat (by decide) hv exT rfl exT_ok
  generalize exT.flat = e at *
  refine ret_of_awp tab Tryd.func10 rfl rfl (Nat.le_of_ble_eq_true rfl) (fun w0 F0 => ?_)
  repeat' (first | refine wG ?_ | refine wC p1 ?_ | refine wC p2 ?_ | refine wC f ?_ | refine wR ?_ | refine wS ?_ ?_ <;> intro _ | refine finG ?_)
  all_goals rfl
end Go.Proofs.YtfnonogemgnlhaaDoor

/-
  Nodes held against each other; formulas held against each other. Conditions: not too many nodes.
-/
set_option maxHeartbeats 8000000
namespace Go.Proofs.YtfnonogemgnlhaaDoor
open Go.Vw
attribute [local irreducible] awp awpL awpR

end Go.Proofs.YtfnonogemgnlhaaDoor

/-
  What an argument of a law holds, as a value of a plain type: whatever can be read of it, it stands for. Conditions: the type's shape is as its code says (a closed fact).
-/
set_option linter.unusedSectionVars false
namespace Go.Vw
open Go.RowKit Go.ChangeShapes Go.WideShapes

mutual
inductive Ty where
  | int (k : IntKind)
  | bool
  | str
  | struct (fs : Tys)
  | slice (e : Ty)
inductive Tys where
  | nil
  | cons (t : Ty) (ts : Tys)
end
mutual
def Ty.Val : Ty → Type
  | .int _ => Int
  | .bool => Bool
  | .str => List UInt8
  | .struct fs => fs.Val
  | .slice e => List e.Val
def Tys.Val : Tys → Type
  | .nil => Unit
  | .cons t ts => t.Val × ts.Val
end
mutual
def Ty.zero : (t : Ty) → t.Val
  | .int _ => (0 : Int)
  | .bool => false
  | .str => ([] : List UInt8)
  | .struct fs => fs.zero
  | .slice e => ([] : List e.Val)
def Tys.zero : (ts : Tys) → ts.Val
  | .nil => ()
  | .cons t ts => (t.zero, ts.zero)
end
mutual
def Ty.width : Ty → Nat
  | .int _ => 1
  | .bool => 1
  | .str => 1
  | .struct fs => fs.width
  | .slice _ => 1
def Tys.width : Tys → Nat
  | .nil => 0
  | .cons t ts => t.width + ts.width
end
mutual
def Ty.cells : (t : Ty) → t.Val → List D
  | .int k, (n : Int) => [.int k n]
  | .bool, (b : Bool) => [.bool b]
  | .str, (s : List UInt8) => [.str s]
  | .struct fs, v => fs.cells v
  | .slice e, (l : List e.Val) => [.sl e.width e.cells e.zero l]
def Tys.cells : (ts : Tys) → ts.Val → List D
  | .nil, _ => []
  | .cons t ts, v => t.cells v.1 ++ ts.cells v.2
end
mutual
def Ty.wf : (t : Ty) → t.Val → Prop
  | .int k, (n : Int) => (Lit.int k n).wf = true
  | .bool, _ => True
  | .str, (s : List UInt8) => s.length ≤ maxLen
  | .struct fs, v => fs.wf v
  | .slice e, (l : List e.Val) => l.length ≤ maxLen ∧ ∀ a ∈ l, e.wf a
def Tys.wf : (ts : Tys) → ts.Val → Prop
  | .nil, _ => True
  | .cons t ts, v => t.wf v.1 ∧ ts.wf v.2
end
mutual
def Ty.ok (P : Program) : Ty → TypeId → Bool
  | .int k, t => match P.underlying t with | some (.int k') => decide (k' = k) | _ => false
  | .bool, t => match P.underlying t with | some .bool => true | _ => false
  | .str, t => match P.underlying t with | some .string => true | _ => false
  | .struct fs, t => match P.underlying t with | some (.struct fields) => Nat.beq (P.cellsOf t) fs.width && Tys.ok P fs fields.toList 0 | _ => false
  | .slice e, t => match P.underlying t with | some (.slice te) => Nat.beq (P.cellsOf te) e.width && Nat.blt 0 e.width && Ty.ok P e te | _ => false
def Tys.ok (P : Program) : Tys → List Field → Nat → Bool
  | .nil, fs, _ => match fs with | [] => true | _ :: _ => false
  | .cons t ts, fs, off => match fs with
    | f :: fs => Nat.beq f.offset off && Nat.beq (P.cellsOf f.type) t.width && Ty.ok P t f.type && Tys.ok P ts fs (off + t.width)
    | [] => false
end
mutual
theorem Ty.cells_len : ∀ (t : Ty) (v : t.Val), (t.cells v).length = t.width
  | .int k, v => rfl
  | .bool, v => rfl
  | .str, v => rfl
  | .struct fs, v => by simp only [Ty.cells, Ty.width]; exact Tys.cells_len fs v
  | .slice e, v => rfl
theorem Tys.cells_len : ∀ (ts : Tys) (v : ts.Val), (ts.cells v).length = ts.width
  | .nil, v => rfl
  | .cons t ts, v => by simp only [Tys.cells, Tys.width, List.length_append]; rw [Ty.cells_len t v.1, Tys.cells_len ts v.2]
end

def allF (w : World) : Nat → Prop := fun b => b < w.heap.size
section
variable {H : Type} {enc : TypeId × Value → H} {P : Program} {w : World} {held : Bool}

theorem dra_one {F : Nat → Prop} {g : Nat → Option Value} {off : Nat} {x : D} {v : Value} (h0 : g off = some v) (h1 : v.oneCell' = true) (h : DR F w x v) : DRA F w g off [x] := by
  simp only [DRA]; exact ⟨⟨v, h0, h1, h⟩, trivial⟩
theorem dra_app {F : Nat → Prop} {g : Nat → Option Value} {xs ys : List D} {off : Nat} (h : DRA F w g off xs) (k : DRA F w g (off + xs.length) ys) : DRA F w g off (xs ++ ys) := by
  rw [DRA_iff] at h k ⊢
  intro i c hi
  by_cases hl : i < xs.length
  · rw [List.getElem?_append_left hl] at hi; exact h i c hi
  · rw [List.getElem?_append_right (by omega)] at hi
    obtain ⟨v, h1, h2⟩ := k _ c hi
    exact ⟨v, by rw [← h1]; congr 1; omega, h2⟩
theorem row_of_cells {a : Addr} {n : Nat} {cs : List Value} (h : w.cells? 0 a n = some cs) (hn : 0 < n) : ∃ b o arr ty fz, a = ⟨b, o, none⟩ ∧ w.heap[b]? = some (.cells arr ty fz) := by
  obtain ⟨_, hl, hc⟩ := World.cells?_some h
  have h0 := hc 0 hn
  rw [List.getElem?_eq_getElem (by omega)] at h0
  obtain ⟨b, o, sp⟩ := a
  unfold World.cell? at h0
  split at h0
  · rename_i c ty fz hh
    split at h0
    · cases h0
    · rename_i hs
      cases sp with
      | none => exact ⟨b, o, c, ty, fz, rfl, hh⟩
      | some s => exact absurd rfl hs
  · cases h0

mutual
theorem Ty.reads : ∀ (ty : Ty) (fuel : Nat) (t : TypeId) (cs : List Value) (x : DataW H × List MemPlace), ty.ok P t = true → DataW.trod enc P w 0 (fun _ => true) held fuel t cs = some x → ∃ v : ty.Val, ty.wf v ∧ cs.length = ty.width ∧ DRA (allF w) w (fun i => cs[i]?) 0 (ty.cells v)
  | .int k, fuel, t, cs, x, hok, h => by
    simp only [Ty.ok] at hok
    split at hok
    · rename_i k' hu
      have hk := of_decide_eq_true hok
      subst hk
      obtain ⟨n, rfl, _, hw⟩ := DataW.trod_int hu h
      exact ⟨(n : Int), hw, rfl, dra_one rfl rfl (by simp only [DR])⟩
    · cases hok
  | .bool, fuel, t, cs, x, hok, h => by
    simp only [Ty.ok] at hok
    split at hok
    · rename_i hu
      obtain ⟨b, rfl, _⟩ := DataW.trod_bool hu h
      exact ⟨(b : Bool), trivial, rfl, dra_one rfl rfl (by simp only [DR])⟩
    · cases hok
  | .str, fuel, t, cs, x, hok, h => by
    simp only [Ty.ok] at hok
    split at hok
    · rename_i hu
      obtain ⟨s, rfl, _, hs⟩ := DataW.trod_string hu h
      refine ⟨(s.data.toList : List UInt8), ?_, rfl, dra_one rfl rfl (by simp only [DR])⟩
      simp only [Ty.wf]
      rw [Array.length_toList]; exact hs
    · cases hok
  | .struct fs, fuel, t, cs, x, hok, h => by
    simp only [Ty.ok] at hok
    split at hok
    · rename_i fields hu
      simp only [Bool.and_eq_true] at hok
      obtain ⟨hw, hf⟩ := hok
      have hw := Nat.eq_of_beq_eq_true hw
      obtain ⟨xs, n, rfl, _, hl, hxl, hx⟩ := DataW.trod_struct hu h
      have hall : ∀ (i : Nat) (f : Field), fields.toList[i]? = some f → ∃ y, DataW.trod enc P w 0 (fun _ => true) held n f.type ((cs.drop f.offset).take (P.cellsOf f.type)) = some y := fun i f hi => by
        rw [Array.getElem?_toList] at hi
        have hlt := (Array.getElem?_eq_some_iff.1 hi).1
        have := hx i f hi
        rw [List.getElem?_eq_getElem (by omega)] at this
        exact ⟨_, this⟩
      obtain ⟨v, h1, h2⟩ := Tys.reads fs n fields.toList 0 cs hf hall
      exact ⟨v, h1, by rw [hl, hw]; rfl, h2⟩
    · cases hok
  | .slice e, fuel, t, cs, x, hok, h => by
    simp only [Ty.ok] at hok
    split at hok
    · rename_i te hu
      simp only [Bool.and_eq_true, Nat.blt_eq] at hok
      obtain ⟨⟨hw, hw0⟩, he⟩ := hok
      have hw := Nat.eq_of_beq_eq_true hw
      rcases Go.Deep.open_slice hu h with ⟨rfl, _⟩ | ⟨a, len, cap, m, n, Dx, Pl, rfl, hb, hlc, hcm, hm, _, hi⟩
      · exact ⟨([] : List e.Val), ⟨by simp, fun a h => by simp at h⟩, rfl, dra_one rfl rfl (by simp only [DR]; exact .inl ⟨⟨_, _, rfl⟩, trivial⟩)⟩
      · have hlm : len ≤ m := by rw [hm]; split <;> omega
        have each : ∀ i, i < len → ∃ v : e.Val, e.wf v ∧ ∃ cs', w.cells? 0 (a.add (i * P.cellsOf te)) (P.cellsOf te) = some cs' ∧ DRA (allF w) w (fun j => cs'[j]?) 0 (e.cells v) := fun i hlt => by
          obtain ⟨cs', h1, h2⟩ := hi i (by omega)
          obtain ⟨v, q1, q2, q3⟩ := Ty.reads e n te cs' _ he h2
          exact ⟨v, q1, cs', h1, q3⟩
        have : ∃ V : Nat → e.Val, ∀ i, i < len → (e.wf (V i) ∧ ∃ cs', w.cells? 0 (a.add (i * P.cellsOf te)) (P.cellsOf te) = some cs' ∧ DRA (allF w) w (fun j => cs'[j]?) 0 (e.cells (V i))) :=
          ⟨fun i => if h : i < len then (each i h).choose else e.zero, fun i h => by
            simp only [h, dif_pos]
            exact (each i h).choose_spec⟩
        obtain ⟨V, hV⟩ := this
        refine ⟨((List.range len).map V : List e.Val), ⟨by simp; omega, fun v hv => ?_⟩, rfl, dra_one rfl rfl ?_⟩
        · simp only [List.mem_map, List.mem_range] at hv
          obtain ⟨i, hlt, rfl⟩ := hv
          exact (hV i hlt).1
        simp only [DR]
        simp only [if_true] at hm
        by_cases hc0 : cap = 0
        · have hl0 : len = 0 := by omega
          subst hl0 hc0
          exact .inl ⟨⟨_, _, rfl⟩, by simp⟩
        · obtain ⟨cs0, h0, _⟩ := hi 0 (by omega)
          rw [Nat.zero_mul, show a.add 0 = a by simp [Addr.add]] at h0
          obtain ⟨b, o, arr, ty, fz, ha, hh⟩ := row_of_cells h0 (by omega)
          have ha' : a = ⟨b, a.off, none⟩ := by subst ha; rfl
          refine .inr ⟨b, a.off, cap, arr, ty, fz, by rw [ha']; simp, by simpa using hlc, lt_of_heap hh, hh, fun i v hv => ?_⟩
          have hlt : i < len := by have := (List.getElem?_eq_some_iff.1 hv).1; simpa using this
          simp [hlt] at hv
          subst hv
          obtain ⟨_, cs', h1, h2⟩ := hV i hlt
          refine ⟨Ty.cells_len _ _, ?_⟩
          obtain ⟨_, hcl, hcc⟩ := World.cells?_some h1
          rw [DRA_iff] at h2 ⊢
          intro j c hj
          obtain ⟨u, p1, p2⟩ := h2 j c hj
          have hjl := (List.getElem?_eq_some_iff.1 hj).1
          rw [Ty.cells_len] at hjl
          refine ⟨u, ?_, p2⟩
          have h3 := hcc j (by omega)
          rw [Nat.zero_add] at p1
          rw [p1, ha', add_plain, add_plain] at h3
          simp only [World.cell?, hh] at h3
          rw [← hw]
          simpa using h3
    · cases hok
theorem Tys.reads : ∀ (ts : Tys) (n : Nat) (fields : List Field) (off : Nat) (cs : List Value), ts.ok P fields off = true → (∀ (i : Nat) (f : Field), fields[i]? = some f → ∃ y, DataW.trod enc P w 0 (fun _ => true) held n f.type ((cs.drop f.offset).take (P.cellsOf f.type)) = some y) → ∃ v : ts.Val, ts.wf v ∧ DRA (allF w) w (fun i => cs[i]?) off (ts.cells v)
  | .nil, n, fields, off, cs, hok, h => ⟨(), trivial, by simp only [Tys.cells, DRA]⟩
  | .cons t ts, n, fields, off, cs, hok, h => by
    simp only [Tys.ok] at hok
    split at hok
    · rename_i f fs
      simp only [Bool.and_eq_true] at hok
      obtain ⟨⟨⟨h1, h2⟩, h3⟩, h4⟩ := hok
      have h1 := Nat.eq_of_beq_eq_true h1
      have h2 := Nat.eq_of_beq_eq_true h2
      obtain ⟨y, hy⟩ := h 0 f rfl
      obtain ⟨v, q1, q2, q3⟩ := Ty.reads t n f.type _ y h3 hy
      obtain ⟨v2, r1, r2⟩ := Tys.reads ts n fs (off + t.width) cs h4 (fun i g hg => h (i + 1) g (by simpa using hg))
      refine ⟨(v, v2), ⟨q1, r1⟩, ?_⟩
      simp only [Tys.cells]
      refine dra_app ?_ (by rw [Ty.cells_len]; exact r2)
      rw [DRA_iff] at q3 ⊢
      intro i c hi
      obtain ⟨u, p1, p2⟩ := q3 i c hi
      have hlt := (List.getElem?_eq_some_iff.1 hi).1
      rw [Ty.cells_len] at hlt
      refine ⟨u, ?_, p2⟩
      rw [Nat.zero_add, List.getElem?_take, if_pos (by omega), List.getElem?_drop, h1] at p1
      exact p1
    · cases hok
end

def Ty.top : (t : Ty) → t.Val → D
  | .int k, (n : Int) => .int k n
  | .bool, (b : Bool) => .bool b
  | .str, (s : List UInt8) => .str s
  | .struct fs, v => .agg (fs.cells v)
  | .slice e, (l : List e.Val) => .sl e.width e.cells e.zero l
theorem Ty.topReads {r : Reach} {b0 : Nat} : ∀ (ty : Ty) (t : TypeId) (v : Value) (d : DataW H) (ps : List MemPlace), ty.ok P t = true → Value.okWide P w r b0 t v → DataW.Trod enc P w 0 (fun _ => true) held t v d ps → ∃ x : ty.Val, ty.wf x ∧ DR (allF w) w (ty.top x) v := fun ty t v d ps hok hv h => by
  obtain ⟨fuel, h⟩ := h
  obtain ⟨x, h1, h2, h3⟩ := Ty.reads ty fuel t _ _ hok h
  refine ⟨x, h1, ?_⟩
  have one : ∀ (y : D), v.cells.toList = [v] → DRA (allF w) w (fun i => v.cells.toList[i]?) 0 [y] → DR (allF w) w y v := fun y e hd => by
    rw [e] at hd
    simp only [DRA] at hd
    obtain ⟨⟨u, hu, _, hd⟩, _⟩ := hd
    simp at hu; subst hu; exact hd
  cases ty with
  | int k =>
    simp only [Ty.ok] at hok
    split at hok
    · rename_i k' hu
      refine one _ ?_ h3
      cases v <;> first | rfl | (simp [Value.okWide, hu, Cell.okWide, Cell.ok] at hv)
    · cases hok
  | bool =>
    simp only [Ty.ok] at hok
    split at hok
    · rename_i hu
      refine one _ ?_ h3
      cases v <;> first | rfl | (simp [Value.okWide, hu, Cell.okWide, Cell.ok] at hv)
    · cases hok
  | str =>
    simp only [Ty.ok] at hok
    split at hok
    · rename_i hu
      refine one _ ?_ h3
      cases v <;> first | rfl | (simp [Value.okWide, hu, Cell.okWide, Cell.ok] at hv)
    · cases hok
  | struct fs =>
    simp only [Ty.ok] at hok
    split at hok
    · rename_i fields hu
      simp only [Value.okWide, hu] at hv
      obtain ⟨arr, rfl, hs, _⟩ := hv
      simp only [Ty.top, DR]
      refine ⟨arr, rfl, ?_, ?_⟩
      · have hc := Tys.cells_len fs x
        have h2' : arr.size = fs.width := by simpa [Value.cells, Ty.width] using h2
        exact h2'.trans hc.symm
      · rw [DRA_iff] at h3 ⊢
        intro i c hi
        obtain ⟨u, p1, p2⟩ := h3 i c hi
        exact ⟨u, by simpa [Value.cells] using p1, p2⟩
    · cases hok
  | slice e =>
    simp only [Ty.ok] at hok
    split at hok
    · rename_i te hu
      refine one _ ?_ h3
      cases v <;> first | rfl | (simp [Value.okWide, hu, Cell.okWide, Cell.ok] at hv)
    · cases hok

def Tys.tops : (ts : Tys) → ts.Val → List D
  | .nil, _ => []
  | .cons t ts, v => t.top v.1 :: ts.tops v.2
def Tys.oks (P : Program) : Tys → List TypeId → Bool
  | .nil, l => match l with | [] => true | _ :: _ => false
  | .cons t ts, l => match l with | a :: r => Ty.ok P t a && Tys.oks P ts r | [] => false
theorem Tys.tops_len : ∀ (ts : Tys) (l : List TypeId) (v : ts.Val), ts.oks P l = true → (ts.tops v).length = l.length
  | .nil, [], _, _ => rfl
  | .nil, _ :: _, _, h => by simp [Tys.oks] at h
  | .cons t ts, [], _, h => by simp [Tys.oks] at h
  | .cons t ts, a :: r, v, h => by
    simp only [Tys.oks, Bool.and_eq_true] at h
    simp only [Tys.tops, List.length_cons, Tys.tops_len ts r v.2 h.2]
theorem Tys.topsRead {r : Reach} {b0 : Nat} : ∀ (tys : Tys) (ts : List TypeId) (vs : List Value) (ds : List (DataW H)) (ps : List MemPlace), tys.oks P ts = true → (∀ (j : Nat) t v, ts[j]? = some t → vs[j]? = some v → Value.okWide P w r b0 t v) → DataW.TrodAll enc P w 0 (fun _ => true) held ts vs ds ps → ∃ x : tys.Val, tys.wf x ∧ vs.length = ts.length ∧ ∀ g off, (∀ i, g (off + i) = vs[i]?) → DRT (allF w) w g off (tys.tops x)
  | .nil, [], vs, ds, ps, _, _, h => by
    cases vs <;> cases ds <;> first | (exact absurd h id) | exact ⟨(), trivial, rfl, fun g off _ => by simp only [Tys.tops, DRT]⟩
  | .nil, _ :: _, _, _, _, hok, _, _ => by simp [Tys.oks] at hok
  | .cons t ts, [], _, _, _, hok, _, _ => by simp [Tys.oks] at hok
  | .cons t ts, a :: r', vs, ds, ps, hok, hv, h => by
    simp only [Tys.oks, Bool.and_eq_true] at hok
    cases vs with
    | nil => cases ds <;> exact absurd h id
    | cons v vs =>
      cases ds with
      | nil => exact absurd h id
      | cons d ds =>
        obtain ⟨p, q, h1, h2, _⟩ := h
        obtain ⟨x, g1, g2⟩ := Ty.topReads t a v d p hok.1 (hv 0 a v rfl rfl) h1
        obtain ⟨y, k1, k2, k3⟩ := Tys.topsRead ts r' vs ds q hok.2 (fun j t' v' e1 e2 => hv (j + 1) t' v' (by simpa using e1) (by simpa using e2)) h2
        refine ⟨(x, y), ⟨g1, k1⟩, by simp [k2], fun g off hg => ?_⟩
        simp only [Tys.tops, DRT]
        refine ⟨⟨v, by simpa using hg 0, g2⟩, k3 g (off + 1) (fun i => ?_)⟩
        rw [Nat.add_assoc, Nat.add_comm 1 i, hg (i + 1)]; simp
end
end Go.Vw

/-
  From a contract on values of plain types to what a law's row asks of a call. Conditions: closed facts of the program's types.
-/
namespace Go.Vw
open Go.ChangeShapes Go.WideShapes Go.ChangeAt Go.RowKit

theorem post_below {H : Type} {enc : TypeId × Value → H} {P : Program} {f : Func} {s : ChangeSpec} {apart fresh handsOn again : Bool} {W W' : World} {args : Array Value} {v : Value} {ds gs : List (DataW H)} {before pa pv : List MemPlace}
    (hW : DataW.Whole enc P f.params.toList s.vars apart W args.toList ds gs before)
    (hres : ∀ (b : Nat) (sp : Nat → Bool) (hd : Bool), DataW.TrodAll enc P W' b sp hd f.resultTypes.toList (v.resultList f.resultTypes.size) (s.fn H (ds ++ gs)).results [])
    (hargs : ∀ sp : Nat → Bool, (∀ p ∈ before, sp p.block = true) → DataW.TrodAll enc P W' 0 sp true f.params.toList args.toList (s.fn H (ds ++ gs)).args pa)
    (hvars : ∀ sp : Nat → Bool, (∀ p ∈ before, sp p.block = true) → DataW.TrodVars enc P W' sp s.vars (s.fn H (ds ++ gs)).vars pv)
    (hps : before = pa ++ pv) (hb : Below W.heap.size W W')
    (hok : ∀ (j : Nat) (t : TypeId) (r : Value), f.resultTypes[j]? = some t → (v.resultList f.resultTypes.size)[j]? = some r → Value.okWide P W' .any 0 t r) :
    s.post enc P f apart fresh handsOn again W args v W' := by
  have hlt := hW.lt
  have hin : ∀ p ∈ before, (fun b => decide (b < W.heap.size)) p.block = true := fun p hp => decide_eq_true (hlt p hp)
  obtain ⟨_, _, _, _, _, hz, hn⟩ := id hW
  refine ⟨ds, gs, before, [], pa, pv, hW, hres _ _ _, hargs _ hin, hvars _ hin, hb.frame _, fun _ => ⟨hok, _, _, ([] ++ pa) ++ pv, ⟨[] ++ pa, pv, trodAll_append (hargs _ fun _ _ => rfl) (hres _ _ _), hvars _ fun _ _ => rfl, rfl, fun b off hp => ?_, fun ha => ?_⟩, fun p hp _ => ?_⟩⟩
  · have hp' : MemPlace.cell b off ∈ before := by rw [hps]; simpa using hp
    rw [hb.frozen (hlt _ hp')]
    exact hz b off hp'
  · have := hn ha
    rw [hps] at this
    simpa using this
  · rw [hps]; simpa using hp

theorem trodAll_stays {H : Type} {enc : TypeId × Value → H} {P : Program} {W W' : World} {sp' : Nat → Bool} (hl : laidOutB P = true) : ∀ {ts : List TypeId} {vs : List Value} {ds : List (DataW H)} {ps : List MemPlace}, (ts.all fun t => P.readableRec t && decide (t < P.types.size)) = true → DataW.TrodAll enc P W 0 (fun _ => true) true ts vs ds ps → (∀ p ∈ ps, W.sameAt W' p) → (∀ p ∈ ps, sp' p.block = true) → DataW.TrodAll enc P W' 0 sp' true ts vs ds ps
  | [], [], [], _, _, h, _, _ => h
  | [], _ :: _, _, _, _, h, _, _ => absurd h id
  | [], [], _ :: _, _, _, h, _, _ => absurd h id
  | _ :: _, [], _, _, _, h, _, _ => absurd h id
  | _ :: _, _ :: _, [], _, _, h, _, _ => absurd h id
  | t :: ts, v :: vs, d :: ds, _, ht, ⟨p, q, h1, h2, e⟩, hsame, hs => by
    subst e
    simp only [List.all_cons, Bool.and_eq_true, decide_eq_true_eq] at ht
    exact ⟨p, q, WideElems.Trod_stays hl ht.1.1 ht.1.2 h1 (fun x hx => hsame x (by simp [hx])) (fun x hx => hs x (by simp [hx])), trodAll_stays hl ht.2 h2 (fun x hx => hsame x (by simp [hx])) (fun x hx => hs x (by simp [hx])), rfl⟩

theorem law_contract {P : Program} {f : FuncId} {fn : Func} {s : ChangeSpec} {rt : TypeId} (tys : Tys) (hl : laidOutB P = true) (hok : tys.oks P fn.params.toList = true) (hp : (fn.params.toList.all fun t => P.readableRec t && decide (t < P.types.size)) = true) (hv : s.vars = []) (hr : fn.resultTypes = #[rt]) (hrt : P.underlying rt = some .bool) (hc : ∀ x : tys.Val, tys.wf x → Ret P f (tys.tops x) (· = .bool true))
    (H : Type) (enc : TypeId × Value → H) (hs : ∀ ds : List (DataW H), ds.length = fn.params.toList.length → (s.fn H ds).results = [.lit (.bool true)] ∧ (s.fn H ds).args = ds ∧ (s.fn H ds).vars = [])
    (W : World) (base : Nat) (args : Array Value) (ds gs : List (DataW H)) (before : List MemPlace)
    (hval : ∀ (j : Nat) t v, fn.params[j]? = some t → args[j]? = some v → Value.okWide P W .any base t v)
    (hW : DataW.Whole enc P fn.params.toList s.vars false W args.toList ds gs before) :
    Calls P f args W fun e W' => ∃ v, e = .returned v ∧ s.post enc P fn false true false false W args v W' := by
  have hW' := hW
  have hlt := hW.lt
  obtain ⟨p, q, hA, hV, rfl, hfz, hnd⟩ := hW
  rw [hv] at hV
  obtain ⟨rfl, rfl⟩ := trodVars_none hV
  obtain ⟨x, hx, hlen, hd⟩ := Tys.topsRead tys fn.params.toList args.toList ds p hok (fun j t v h1 h2 => hval j t v (by simpa using h1) (by simpa using h2)) hA
  have hdl : ds.length = fn.params.toList.length := by
    have aux : ∀ (ts : List TypeId) (vs : List Value) (ds : List (DataW H)) (ps : List MemPlace), DataW.TrodAll enc P W 0 (fun _ => true) true ts vs ds ps → ds.length = ts.length := by
      intro ts
      induction ts with
      | nil => intro vs ds ps h; cases vs <;> cases ds <;> first | (exact absurd h id) | rfl
      | cons t ts ih =>
        intro vs ds ps h
        cases vs with
        | nil => cases ds <;> exact absurd h id
        | cons v vs => cases ds with
          | nil => exact absurd h id
          | cons d ds => obtain ⟨_, q, _, h2, _⟩ := h; simp [ih _ _ _ h2]
    exact aux _ _ _ _ hA
  obtain ⟨s1, s2, s3⟩ := hs ds hdl
  have ht := Tys.tops_len tys fn.params.toList x hok
  refine ((hc x hx).run (allF W) W args (fun b h => h) (by rw [ht, ← hlen]; simp) (hd _ 0 (fun i => by simp))).mono fun e W' ⟨v, r, F', he, hr', hb, _, _, hv'⟩ => ?_
  subst he hr'
  simp only [Vw.DR] at hv'
  subst hv'
  refine ⟨_, rfl, post_below (pa := p) (pv := []) hW' ?_ ?_ ?_ rfl hb ?_⟩
  · intro b sp hd'
    simp only [List.append_nil, s1, hr]
    exact trodAll_cons_mk (shut_bool hrt _) trodAll_mk0
  · intro sp hsp
    simp only [List.append_nil, s2]
    exact trodAll_stays hl hp hA (fun y hy => hb.same (hlt y (by simp [hy]))) (fun y hy => hsp y (by simp [hy]))
  · intro sp hsp
    simp only [List.append_nil, s3, hv]
    rfl
  · exact ok_one hr rfl (okWide_bool_mk hrt _)
end Go.Vw

/-
  Natural numbers as lists of limbs of 32 bits: plain arithmetic. Conditions: as each says.
-/
namespace Go.Vw

abbrev B : Nat := 4294967296

def val : List Nat → Nat
  | [] => 0
  | x :: l => x + B * val l

def WF (l : List Nat) : Prop := ∀ x ∈ l, x < B

def limbs (n : Nat) : List Nat := if h : n = 0 then [] else n % B :: limbs (n / B)
termination_by n
decreasing_by exact Nat.div_lt_self (Nat.pos_of_ne_zero h) (by decide)

theorem limbs_zero : limbs 0 = [] := by unfold limbs; simp
theorem limbs_pos {n : Nat} (h : n ≠ 0) : limbs n = n % B :: limbs (n / B) := by
  rw [limbs]; simp [h]

theorem val_limbs (n : Nat) : val (limbs n) = n := by
  induction n using Nat.strongRecOn with
  | _ n ih =>
    by_cases h : n = 0
    · subst h; rw [limbs_zero]; rfl
    · rw [limbs_pos h, val, ih _ (Nat.div_lt_self (Nat.pos_of_ne_zero h) (by decide))]
      exact Nat.mod_add_div n B

theorem wf_limbs (n : Nat) : WF (limbs n) := by
  induction n using Nat.strongRecOn with
  | _ n ih =>
    by_cases h : n = 0
    · subst h; rw [limbs_zero]; intro x hx; cases hx
    · rw [limbs_pos h]
      intro x hx
      rcases List.mem_cons.1 hx with rfl | hx
      · exact Nat.mod_lt _ (by decide)
      · exact ih _ (Nat.div_lt_self (Nat.pos_of_ne_zero h) (by decide)) x hx

theorem WF.tail {x : Nat} {l : List Nat} (h : WF (x :: l)) : WF l := fun y hy => h y (by simp [hy])
theorem WF.head {x : Nat} {l : List Nat} (h : WF (x :: l)) : x < B := h x (by simp)
theorem WF.nil : WF [] := fun x hx => by cases hx
theorem WF.append {a b : List Nat} (ha : WF a) (hb : WF b) : WF (a ++ b) := fun x hx => by
  rcases List.mem_append.1 hx with h | h
  · exact ha x h
  · exact hb x h
theorem WF.take {a : List Nat} (ha : WF a) (n : Nat) : WF (a.take n) := fun x hx => ha x (List.mem_of_mem_take hx)
theorem WF.drop {a : List Nat} (ha : WF a) (n : Nat) : WF (a.drop n) := fun x hx => ha x (List.mem_of_mem_drop hx)
theorem WF.getD {a : List Nat} (ha : WF a) (i : Nat) : a.getD i 0 < B := by
  by_cases h : i < a.length
  · simp only [List.getD, List.getElem?_eq_getElem h, Option.getD_some]; exact ha _ (List.getElem_mem h)
  · simp [List.getD, List.getElem?_eq_none (Nat.le_of_not_lt h)]

theorem val_append (a b : List Nat) : val (a ++ b) = val a + B ^ a.length * val b := by
  induction a with
  | nil => simp [val]
  | cons x a ih =>
    simp only [List.cons_append, val, ih, List.length_cons, Nat.pow_succ]
    rw [Nat.mul_add, Nat.mul_comm (B ^ a.length) B, Nat.mul_assoc, Nat.add_assoc]

theorem val_lt {l : List Nat} (h : WF l) : val l < B ^ l.length := by
  induction l with
  | nil => simp [val]
  | cons x l ih =>
    have h1 := ih h.tail
    have h2 := h.head
    simp only [val, List.length_cons, Nat.pow_succ]
    calc x + B * val l < B + B * val l := by omega
      _ = B * (val l + 1) := by rw [Nat.mul_add]; omega
      _ ≤ B * B ^ l.length := Nat.mul_le_mul_left _ h1
      _ = B ^ l.length * B := Nat.mul_comm _ _

def valid (l : List Nat) : Bool := l.isEmpty || l.getD (l.length - 1) 0 != 0

theorem length_limbs_le {n k : Nat} (h : n < B ^ k) : (limbs n).length ≤ k := by
  induction k generalizing n with
  | zero => have : n = 0 := by simpa using h
            subst this; simp [limbs_zero]
  | succ k ih =>
    by_cases h0 : n = 0
    · subst h0; simp [limbs_zero]
    · rw [limbs_pos h0]
      have := ih (n := n / B) (Nat.div_lt_of_lt_mul (by rw [Nat.pow_succ, Nat.mul_comm] at h; exact h))
      simpa using this
theorem lt_pow_length (n : Nat) : n < B ^ (limbs n).length := by
  have := val_lt (wf_limbs n)
  rwa [val_limbs] at this
end Go.Vw

/-
  Lists of limbs, more: digit by digit. Conditions: none.
-/
namespace Go.Vw

theorem WF.set {l : List Nat} (h : WF l) (i : Nat) {x : Nat} (hx : x < B) : WF (l.set i x) := fun y hy => by
  rcases List.mem_or_eq_of_mem_set hy with h1 | h1
  · exact h y h1
  · omega
theorem B_val : B = 4294967296 := rfl

theorem limbs_len_mono {m n : Nat} (h : m ≤ n) : (limbs m).length ≤ (limbs n).length := length_limbs_le (Nat.lt_of_le_of_lt h (lt_pow_length n))
end Go.Vw

/-
  Lists of limbs: lengths of results, digits and bits. Conditions: none.
-/
namespace Go.Vw

abbrev ln (n : Nat) : Nat := (limbs n).length
theorem lt_ln (n : Nat) : n < B ^ ln n := lt_pow_length n
theorem ln_le {n k : Nat} (h : n < B ^ k) : ln n ≤ k := length_limbs_le h
theorem ln_mono {m n : Nat} (h : m ≤ n) : ln m ≤ ln n := limbs_len_mono h
theorem ln_add1 {m n k : Nat} (h1 : ln m ≤ k) (h2 : ln n ≤ k) : ln (m + n) ≤ k + 1 := by
  refine ln_le ?_
  have h1' := Nat.lt_of_lt_of_le (lt_ln m) (Nat.pow_le_pow_right (show 0 < B by decide) h1)
  have h2' := Nat.lt_of_lt_of_le (lt_ln n) (Nat.pow_le_pow_right (show 0 < B by decide) h2)
  rw [Nat.pow_succ]
  have : B ^ k * 2 ≤ B ^ k * B := Nat.mul_le_mul_left _ (by decide)
  omega
theorem ln_mul (m n : Nat) : ln (m * n) ≤ ln m + ln n := by
  refine ln_le ?_
  rw [Nat.pow_add]
  by_cases h : n = 0
  · subst h; exact Nat.mul_pos (Nat.pow_pos (by decide)) (Nat.pow_pos (by decide))
  · exact Nat.mul_lt_mul_of_lt_of_le (lt_ln m) (Nat.le_of_lt (lt_ln n)) (Nat.pow_pos (by decide))
end Go.Vw

/-
  Integers and rational numbers as the program holds them. Conditions: none.
-/
namespace Go.Vw

def validI (neg : Bool) (mag : List Nat) : Bool := valid mag && !(neg && decide (mag.length = 0))
def iv' (neg : Bool) (mag : List Nat) : Int := if validI neg mag then (if neg then -(val mag : Int) else val mag) else 0

theorem iv'_abs (neg : Bool) (mag : List Nat) : (iv' neg mag).natAbs = if validI neg mag then val mag else 0 := by
  unfold iv'; split
  · cases neg <;> simp
  · rfl
theorem iv'_len {neg : Bool} {mag : List Nat} (h : WF mag) : (limbs (iv' neg mag).natAbs).length ≤ mag.length := by
  rw [iv'_abs]; split
  · exact length_limbs_le (val_lt h)
  · rw [limbs_zero]; simp
structure IntOk (neg : Bool) (mag : List Nat) (k : Nat) : Prop where
  wf : WF mag
  len : mag.length < k
theorem IntOk.z {z : Int} {k : Nat} (h : (limbs z.natAbs).length < k) : IntOk (decide (z < 0)) (limbs z.natAbs) k := ⟨wf_limbs _, h⟩
theorem IntOk.val {neg : Bool} {mag : List Nat} {k : Nat} (h : IntOk neg mag k) : (limbs (iv' neg mag).natAbs).length < k := Nat.lt_of_le_of_lt (iv'_len h.wf) h.len
end Go.Vw

/-
  Rational numbers as the program holds them; rows, tables, strings. Conditions: none.
-/
namespace Go.Vw

abbrev R3 := Bool × List Nat × List Nat
@[reducible] def rC (r : R3) : List D := [.bool r.1, u32s r.2.1, u32s r.2.2]
@[reducible] def rD (r : R3) : D := .agg (rC r)
@[reducible] def r0 : R3 := (false, [], [])
@[reducible] def rsD (l : List R3) : D := .sl 3 rC r0 l
@[reducible] def eR (l : List R3) : List D := [rsD l]
@[reducible] def rssD (l : List (List R3)) : D := .sl 1 eR [] l
@[reducible] def eS (b : List UInt8) : List D := [.str b]
@[reducible] def strsD (l : List (List UInt8)) : D := .sl 1 eS [] l

end Go.Vw

/-
  Rational numbers: what the fields stand for, and the fields of a number. Conditions: as each says.
-/
namespace Go.Vw

def dL (d : Nat) : List Nat := if d = 1 then [] else limbs d
def rq (q : Rat) : R3 := (decide (q.num < 0), limbs q.num.natAbs, dL q.den)
structure RatOk (r : R3) (k : Nat) : Prop where
  wm : WF r.2.1
  wd : WF r.2.2
  lm : r.2.1.length < k
  ld : r.2.2.length < k
def okQ (k : Nat) (q : Rat) : Prop := (limbs q.num.natAbs).length < k ∧ (limbs q.den).length < k
theorem okQ.mono {k l : Nat} {q : Rat} (h : okQ k q) (hl : k ≤ l) : okQ l q := ⟨Nat.lt_of_lt_of_le h.1 hl, Nat.lt_of_lt_of_le h.2 hl⟩
end Go.Vw

/-
  Rational numbers: comparison, whole numbers, bounds. Conditions: as each says.
-/
namespace Go.Vw
theorem RatOk.up {r : R3} {k l : Nat} (h : RatOk r k) (hl : k ≤ l) : RatOk r l := ⟨h.wm, h.wd, Nat.lt_of_lt_of_le h.lm hl, Nat.lt_of_lt_of_le h.ld hl⟩
end Go.Vw

/-
  Rational numbers: sizes of results, order, whole parts. Conditions: as each says.
-/
namespace Go.Vw
theorem divInt_le (a b : Int) (hb : b ≠ 0) : (Rat.divInt a b).num.natAbs ≤ a.natAbs ∧ (Rat.divInt a b).den ≤ b.natAbs := by
  rw [Rat.num_divInt, Rat.den_divInt, if_neg hb]
  refine ⟨?_, Nat.div_le_self _ _⟩
  have hg : 0 < Int.gcd b a := Int.gcd_pos_of_ne_zero_left _ hb
  have hd : ((Int.gcd b a : Nat) : Int) ∣ b.sign * a := Int.dvd_trans (Int.gcd_dvd_right b a) (Int.dvd_mul_left _ _)
  rw [Int.natAbs_ediv_of_dvd hd, Int.natAbs_mul]
  have h1 : b.sign.natAbs = 1 := by rw [Int.natAbs_sign, if_neg hb]
  rw [h1, Nat.one_mul]
  exact Nat.div_le_self _ _
theorem okQ_divInt {a b : Int} {k : Nat} (hb : b ≠ 0) (ha : (limbs a.natAbs).length < k) (hb2 : (limbs b.natAbs).length < k) : okQ k (Rat.divInt a b) :=
  ⟨Nat.lt_of_le_of_lt (limbs_len_mono (divInt_le a b hb).1) ha, Nat.lt_of_le_of_lt (limbs_len_mono (divInt_le a b hb).2) hb2⟩
theorem add_divInt (x y : Rat) : x + y = Rat.divInt (x.num * y.den + y.num * x.den) ((x.den * y.den : Nat) : Int) := by rw [Rat.add_def', ← Rat.divInt_ofNat]
theorem mul_divInt (x y : Rat) : x * y = Rat.divInt (x.num * y.num) ((x.den * y.den : Nat) : Int) := by rw [Rat.mul_def', ← Rat.divInt_ofNat]
theorem okQ.add {x y : Rat} {k l : Nat} (hx : okQ k x) (hy : okQ l y) : okQ (k + l) (x + y) := by
  rw [add_divInt]
  have l1 := ln_mul x.num.natAbs y.den
  have l2 := ln_mul y.num.natAbs x.den
  have l3 := ln_mul x.den y.den
  have e1 : (x.num * (y.den : Int)).natAbs = x.num.natAbs * y.den := by rw [Int.natAbs_mul, Int.natAbs_natCast]
  have e2 : (y.num * (x.den : Int)).natAbs = y.num.natAbs * x.den := by rw [Int.natAbs_mul, Int.natAbs_natCast]
  have l4 := ln_mono (Int.natAbs_add_le (x.num * y.den) (y.num * x.den))
  obtain ⟨x1, x2⟩ := hx
  obtain ⟨y1, y2⟩ := hy
  simp only [ln] at l1 l2 l3 l4
  have l5 := ln_add1 (m := (x.num * (y.den : Int)).natAbs) (n := (y.num * (x.den : Int)).natAbs) (k := k + l - 2) (by simp only [ln]; rw [e1]; omega) (by simp only [ln]; rw [e2]; omega)
  simp only [ln] at l5
  refine okQ_divInt (by have := Nat.mul_ne_zero x.den_nz y.den_nz; omega) (by omega) (by rw [Int.natAbs_natCast]; omega)
theorem okQ.mul {x y : Rat} {k l : Nat} (hx : okQ k x) (hy : okQ l y) : okQ (k + l) (x * y) := by
  rw [mul_divInt]
  have l1 := ln_mul x.num.natAbs y.num.natAbs
  have l3 := ln_mul x.den y.den
  have e1 : (x.num * y.num).natAbs = x.num.natAbs * y.num.natAbs := Int.natAbs_mul _ _
  obtain ⟨x1, x2⟩ := hx
  obtain ⟨y1, y2⟩ := hy
  simp only [ln] at l1 l3
  refine okQ_divInt (by have := Nat.mul_ne_zero x.den_nz y.den_nz; omega) (by rw [e1]; omega) (by rw [Int.natAbs_natCast]; omega)
theorem okQ.neg {x : Rat} {k : Nat} (hx : okQ k x) : okQ k (-x) := ⟨by rw [Rat.neg_num, Int.natAbs_neg]; exact hx.1, by rw [Rat.neg_den]; exact hx.2⟩
theorem okQ.sub {x y : Rat} {k l : Nat} (hx : okQ k x) (hy : okQ l y) : okQ (k + l) (x - y) := by rw [Rat.sub_eq_add_neg]; exact hx.add hy.neg
end Go.Vw

/-
  Matrices of rational numbers: the elimination as the specification has it, where each pivot stands in its place. Conditions: as each says.
-/
namespace Go.Vw
@[reducible] def qC (q : Rat) : List D := rC (rq q)
@[reducible] def qD (q : Rat) : D := rD (rq q)
@[reducible] def qsD (l : List Rat) : D := .sl 3 qC 0 l
@[reducible] def eQ (l : List Rat) : List D := [qsD l]
@[reducible] def qssD (l : List (List Rat)) : D := .sl 1 eQ [] l

def timesQ (l : List Rat) (c : Rat) : List Rat := l.map (· * c)
def plusQ (a b : List Rat) : List Rat := List.zipWith (· + ·) a b
def at2 (m : List (List Rat)) (i j : Nat) : Rat := (m.getD i []).getD j 0
def scaleQ (m : List (List Rat)) (j : Nat) : List (List Rat) := m.set j (timesQ (m.getD j []) (1 / at2 m j j))
def elimRow (m : List (List Rat)) (j i : Nat) : List Rat := if i = j then m.getD j [] else plusQ (m.getD i []) (timesQ (m.getD j []) (-(at2 m i j)))
def elimI (m : List (List Rat)) (j i : Nat) : List (List Rat) := (List.range i).map (elimRow m j) ++ m.drop i
def redQ (m : List (List Rat)) (j : Nat) : List (List Rat) := elimI (scaleQ m j) j m.length

def smallQ (q : Rat) : Prop := q.num.natAbs < 18446744073709551616 ∧ q.den < 18446744073709551616
theorem limbs_len2 {n : Nat} (h : n < 18446744073709551616) : (limbs n).length < 1000 := Nat.lt_of_le_of_lt (length_limbs_le (n := n) (k := 2) (by rw [B_val]; exact h)) (by decide)
theorem limbs_len4 {n : Nat} (h : n < 18446744073709551616 * 18446744073709551616) : (limbs n).length < 1000 := Nat.lt_of_le_of_lt (length_limbs_le (n := n) (k := 4) (by rw [B_val]; exact h)) (by decide)
theorem smallQ.ok {q : Rat} (h : smallQ q) : okQ 10000000 q := ⟨Nat.lt_trans (limbs_len2 h.1) (by decide), Nat.lt_trans (limbs_len2 h.2) (by decide)⟩
theorem smallQ.neg {q : Rat} (h : smallQ q) : smallQ (-q) := by unfold smallQ at *; rw [show (-q).num = -q.num from rfl, show (-q).den = q.den from rfl, Int.natAbs_neg]; exact h
theorem smallQ.one : smallQ 1 := by unfold smallQ; decide
theorem num_mul_le (x y : Rat) : (x * y).num.natAbs ≤ x.num.natAbs * y.num.natAbs ∧ (x * y).den ≤ x.den * y.den := by
  rw [Rat.num_mul, Rat.den_mul, ← Int.natAbs_mul]
  refine ⟨?_, Nat.div_le_self _ _⟩
  have hd : ((((x.num * y.num).natAbs.gcd (x.den * y.den) : Nat)) : Int) ∣ x.num * y.num := Int.ofNat_dvd_left.2 (Nat.gcd_dvd_left _ _)
  rw [Int.natAbs_ediv_of_dvd hd]
  exact Nat.div_le_self _ _
theorem smallQ.mul {x y : Rat} (hx : smallQ x) (hy : smallQ y) : okQ 10000000 (x * y) := by
  obtain ⟨h1, h2⟩ := num_mul_le x y
  exact ⟨Nat.lt_trans (limbs_len4 (Nat.lt_of_le_of_lt h1 (Nat.mul_lt_mul'' hx.1 hy.1))) (by decide), Nat.lt_trans (limbs_len4 (Nat.lt_of_le_of_lt h2 (Nat.mul_lt_mul'' hx.2 hy.2))) (by decide)⟩
structure GoodM (n : Nat) (m : List (List Rat)) : Prop where
  len : m.length = n
  row : ∀ i, i < n → (m.getD i []).length = n
  small : ∀ i, i < n → ∀ q ∈ m.getD i [], smallQ q
theorem GoodM.at2 {n : Nat} {m : List (List Rat)} (h : GoodM n m) {i j : Nat} (hi : i < n) (hj : j < n) : smallQ (at2 m i j) := by
  refine h.small i hi _ ?_
  unfold Vw.at2
  have hr := h.row i hi
  generalize m.getD i [] = r at *
  rw [List.getD_eq_getElem?_getD, List.getElem?_eq_getElem (by omega)]; exact List.getElem_mem _
def mAt (m : List (List Rat)) : Nat → List (List Rat)
  | 0 => m
  | j + 1 => redQ (mAt m j) j
def facAt (m : List (List Rat)) : Nat → Rat
  | 0 => 1
  | j + 1 => facAt m j * at2 (mAt m j) j j
structure RunOk (n : Nat) (m : List (List Rat)) : Prop where
  good : ∀ j, j ≤ n → GoodM n (mAt m j)
  piv : ∀ j, j < n → at2 (mAt m j) j j ≠ 0
  fac : ∀ j, j < n → smallQ (facAt m j)
  scaled : ∀ j, j < n → GoodM n (scaleQ (mAt m j) j)
end Go.Vw

/-
  Laws of machine words: borrow, halves, powers. Conditions: as each says.
-/
namespace Go.Vw

/-! ## Long division -/

section
variable {b t u0 v1 v0 q r : Nat} (hb : 1 < b) (hv : 0 < v1) (he : q * v1 + r = t)
include hb hv he
end
end Go.Vw

/-
  Sums, differences and products of lists of limbs, limb by limb into a row that lies ready. Conditions: as each says.
-/
namespace Go.Vw
theorem val_drop (l : List Nat) (i : Nat) (h : i < l.length) : val (l.drop i) = l.getD i 0 + B * val (l.drop (i + 1)) := by
  rw [List.drop_eq_getElem_cons h, val]
  rw [List.getD_eq_getElem?_getD, List.getElem?_eq_getElem h]; rfl
end Go.Vw

/-
  Lists of limbs of a fixed length; shifts; the steps of a long division. Conditions: as each says.
-/
namespace Go.Vw
def padL : Nat → Nat → List Nat
  | 0, _ => []
  | n + 1, v => v % B :: padL n (v / B)
theorem padL_len : ∀ n v, (padL n v).length = n
  | 0, v => rfl
  | n + 1, v => by simp [padL, padL_len n]
theorem padL_wf : ∀ n v, WF (padL n v)
  | 0, v => WF.nil
  | n + 1, v => fun x hx => by
    simp only [padL, List.mem_cons] at hx
    rcases hx with rfl | hx
    · exact Nat.mod_lt _ (by decide)
    · exact padL_wf n _ x hx
theorem padL_val : ∀ n v, val (padL n v) = v % B ^ n
  | 0, v => by simp [padL, val, Nat.mod_one]
  | n + 1, v => by
    rw [padL, val, padL_val n, Nat.pow_succ, Nat.mul_comm (B ^ n), Nat.mod_mul]
end Go.Vw

/-
  A part of a row of limbs rewritten limb by limb: a multiple taken away, a number put back. Conditions: as each says.
-/
namespace Go.Vw
def mid (U : List Nat) (j : Nat) (w : List Nat) : List Nat := U.take j ++ w ++ U.drop (j + w.length)
theorem mid_wf {U w : List Nat} {j : Nat} (hU : WF U) (hw : WF w) : WF (mid U j w) := WF.append (WF.append (hU.take j) hw) (hU.drop _)
end Go.Vw

/-
  Long division of lists of limbs: one digit, and the end. Conditions: as each says.
-/
namespace Go.Vw
theorem mid_drop {U w : List Nat} {j : Nat} (h : j ≤ U.length) : (mid U j w).drop j = w ++ U.drop (j + w.length) := by
  unfold mid
  rw [List.append_assoc, List.drop_append_of_le_length (by simp; omega), List.drop_eq_nil_of_le (by simp; omega), List.nil_append]
theorem val_mid {U w : List Nat} {j : Nat} (h : j + w.length ≤ U.length) : val (mid U j w) + B ^ j * val ((U.drop j).take w.length) = val U + B ^ j * val w := by
  have h1 : val U = val (U.take j) + B ^ j * val (U.drop j) := by
    conv => lhs; rw [← List.take_append_drop j U, val_append]
    rw [List.length_take, Nat.min_eq_left (by omega)]
  have h2 : val (U.drop j) = val ((U.drop j).take w.length) + B ^ w.length * val (U.drop (j + w.length)) := by
    conv => lhs; rw [← List.take_append_drop w.length (U.drop j), val_append]
    rw [List.length_take, List.drop_drop, Nat.min_eq_left (by simp; omega)]
  unfold mid
  rw [List.append_assoc, val_append, val_append, List.length_take, Nat.min_eq_left (by omega), h1, h2, Nat.mul_add, Nat.mul_add]
  omega
theorem win_all {U : List Nat} {j n V : Nat} (hU : WF U) (hj : j + n + 1 ≤ U.length) (hV : V < B ^ n) (hlt : val (U.drop (j + 1)) < V) : val ((U.drop j).take (n + 1)) = val (U.drop j) ∧ val (U.drop (j + n + 1)) = 0 ∧ val (U.drop j) < V * B := by
  have h1 : val (U.drop (j + 1)) = val ((U.drop (j + 1)).take n) + B ^ n * val (U.drop (j + n + 1)) := by
    conv => lhs; rw [← List.take_append_drop n (U.drop (j + 1)), val_append]
    rw [List.length_take, List.drop_drop, Nat.min_eq_left (by simp; omega), show j + 1 + n = j + n + 1 by omega]
  have h0 : val (U.drop (j + n + 1)) = 0 := by
    rcases Nat.eq_zero_or_pos (val (U.drop (j + n + 1))) with h | h
    · exact h
    · have := Nat.mul_le_mul_left (B ^ n) h
      omega
  have h2 : val (U.drop j) = val ((U.drop j).take (n + 1)) + B ^ (n + 1) * val (U.drop (j + n + 1)) := by
    conv => lhs; rw [← List.take_append_drop (n + 1) (U.drop j), val_append]
    rw [List.length_take, List.drop_drop, Nat.min_eq_left (by simp; omega), show j + (n + 1) = j + n + 1 by omega]
  rw [h0, Nat.mul_zero, Nat.add_zero] at h2
  refine ⟨h2.symm, h0, ?_⟩
  rw [val_drop U j (by omega)]
  have h3 := hU.getD j
  have h4 := Nat.mul_le_mul_left B (show val (U.drop (j + 1)) + 1 ≤ V from hlt)
  rw [Nat.mul_comm V B]
  rw [Nat.mul_add] at h4
  omega
structure DivInv (A V : Nat) (n : Nat) (U Q : List Nat) (j : Nat) : Prop where
  wU : WF U
  wQ : WF Q
  eq : A = val (Q.drop j) * (B ^ j * V) + val U
  lt : val (U.drop j) < V
theorem DivInv.step {A V n j : Nat} {U Q : List Nat} (h : DivInv A V n U Q (j + 1)) (hV : V < B ^ n) (hV0 : 0 < V) (hj : j + n + 1 ≤ U.length) (hQ : j < Q.length) : val ((U.drop j).take (n + 1)) < V * B ∧ val ((U.drop j).take (n + 1)) / V < B ∧ DivInv A V n (mid U j (padL (n + 1) (val ((U.drop j).take (n + 1)) % V))) (Q.set j (val ((U.drop j).take (n + 1)) / V)) j := by
  obtain ⟨w1, w2, w3⟩ := win_all h.wU hj hV h.lt
  rw [w1]
  have hq : val (U.drop j) / V < B := by rw [Nat.div_lt_iff_lt_mul hV0, Nat.mul_comm]; exact w3
  refine ⟨w3, hq, mid_wf h.wU (padL_wf _ _), h.wQ.set _ hq, ?_, ?_⟩
  · have hm := val_mid (U := U) (j := j) (w := padL (n + 1) (val (U.drop j) % V)) (by rw [padL_len]; omega)
    have hr : val (U.drop j) % V < B ^ (n + 1) := by
      have := Nat.mod_lt (val (U.drop j)) hV0
      have h2 : B ^ n ≤ B ^ (n + 1) := Nat.pow_le_pow_right (by decide) (by omega)
      exact Nat.lt_of_lt_of_le (Nat.lt_trans this hV) h2
    rw [padL_len, padL_val, Nat.mod_eq_of_lt hr, w1] at hm
    have hd := val_drop (Q.set j (val (U.drop j) / V)) j (by simpa using hQ)
    rw [show (Q.set j (val (U.drop j) / V)).drop (j + 1) = Q.drop (j + 1) from List.drop_set_of_lt (by omega)] at hd
    have hg : (Q.set j (val (U.drop j) / V)).getD j 0 = val (U.drop j) / V := by simp [List.getD_eq_getElem?_getD, hQ]
    rw [hg] at hd
    rw [hd, Nat.add_mul, h.eq]
    have hdm := Nat.div_add_mod (val (U.drop j)) V
    generalize val (U.drop j) / V = q at *
    generalize val (U.drop j) % V = r at *
    generalize val (U.drop j) = W at *
    have e1 : B * val (Q.drop (j + 1)) * (B ^ j * V) = val (Q.drop (j + 1)) * (B ^ (j + 1) * V) := by rw [Nat.pow_succ]; ac_rfl
    have e2 : q * (B ^ j * V) = B ^ j * (V * q) := by ac_rfl
    rw [e1, e2]
    rw [← hdm, Nat.mul_add] at hm
    omega
  · rw [mid_drop (by omega), val_append, padL_len, padL_val, show j + (n + 1) = j + n + 1 by omega, w2, Nat.mul_zero, Nat.add_zero]
    exact Nat.lt_of_le_of_lt (Nat.mod_le _ _) (Nat.mod_lt _ hV0)
theorem DivInv.done {a b s n : Nat} {U Q : List Nat} (hb : 0 < b) (h : DivInv (a * 2 ^ s) (b * 2 ^ s) n U Q 0) : val Q = a / b ∧ val U / 2 ^ s = a % b := by
  have hp : 0 < 2 ^ s := Nat.pow_pos (by decide)
  have h1 := h.eq
  have h2 := h.lt
  rw [List.drop_zero, Nat.pow_zero, Nat.one_mul] at h1
  rw [List.drop_zero] at h2
  have h3 : a * 2 ^ s / (b * 2 ^ s) = a / b := Nat.mul_div_mul_right _ _ hp
  have h4 : a * 2 ^ s % (b * 2 ^ s) = a % b * 2 ^ s := Nat.mul_mod_mul_right _ _ _
  have h5 : val Q = a * 2 ^ s / (b * 2 ^ s) := by
    rw [h1, Nat.add_comm, Nat.mul_comm (val Q), Nat.add_mul_div_left _ _ (Nat.mul_pos hb hp), Nat.div_eq_of_lt h2, Nat.zero_add]
  have h6 : val U = a * 2 ^ s % (b * 2 ^ s) := by
    rw [h1, Nat.add_comm, Nat.mul_comm (val Q), Nat.add_mul_mod_self_left, Nat.mod_eq_of_lt h2]
  exact ⟨h5.trans h3, by rw [h6, h4, Nat.mul_div_cancel _ hp]⟩
end Go.Vw

/-
  Long division of lists of limbs: the estimate of one digit in terms of the limbs. Conditions: as each says.
-/
namespace Go.Vw
structure Hid (p : Prop) : Prop where
  out : p
end Go.Vw

/-
  Square roots of whole numbers by Newton's iteration; powers of 2 as lists of limbs. Conditions: as each says.
-/
namespace Go.Vw
def rtGo : Nat → Nat → Nat
  | 0, _ => 0
  | k + 1, a => if (k + 1) * (k + 1) ≤ a then k + 1 else rtGo k a
def rt (a : Nat) : Nat := rtGo a a
end Go.Vw

/-
  Intervals of rational numbers: what the operations are, in plain terms. Conditions: as each says.
-/
namespace Go.Vw
abbrev I2 := Rat × Rat
@[reducible] def iD (a b : R3) : D := .agg [.bool a.1, u32s a.2.1, u32s a.2.2, .bool b.1, u32s b.2.1, u32s b.2.2]
@[reducible] def iQ (i : I2) : D := iD (rq i.1) (rq i.2)
def takeI (x y : Rat) : I2 := if y < x then (0, 0) else (x, y)
end Go.Vw

/-
  A law's rational numbers and intervals as they come in. Conditions: as each says.
-/
namespace Go.Vw
structure RawR (r : R3) : Prop where
  wm : WF r.2.1
  wd : WF r.2.2
  lm : r.2.1.length ≤ 9223372036854775807
  ld : r.2.2.length ≤ 9223372036854775807
theorem i64_wf {z : Int} (h : (Lit.int .i64 z).wf = true) : -9223372036854775808 ≤ z ∧ z < 9223372036854775808 := by
  simp [Lit.wf, IntKind.min, IntKind.max, IntKind.signed, IntKind.bits] at h
  omega
end Go.Vw

/-
  Formulas as they come in. Conditions: none.
-/
namespace Go.Vw
abbrev tNode : Ty := .struct (.cons (.int .i64) (.cons .str (.cons (.int .i64) .nil)))
abbrev tFm : Ty := .struct (.cons .str (.cons (.slice tNode) .nil))
abbrev vNode : Type := Int × List UInt8 × Int × Unit
abbrev vFm : Type := List UInt8 × List vNode × Unit
def toNd (x : vNode) : Nd := (x.1, x.2.1, x.2.2.1)
def toNds (l : List vNode) : List Nd := l.map toNd
abbrev fmD (s : List UInt8) (e : List Nd) : D := .agg [.str s, ndsD e]
theorem leNds (l : List vNode) : LeD (.sl 3 (Ty.cells tNode) (Ty.zero tNode) l) (ndsD (toNds l)) := by
  refine LeD.sl (List.length_map ..).symm fun i (a : vNode) b (ha : (l[i]? : Option vNode) = some a) hb => ⟨rfl, ?_⟩
  unfold toNds at hb
  rw [List.getElem?_map, ha] at hb
  have e : toNd a = b := Option.some.inj hb
  subst e
  exact LeL.cons (LeD.refl _) (LeL.cons (LeD.refl _) (LeL.cons (LeD.refl _) LeL.nil))
theorem leFm (x : vFm) : LeD (Ty.top tFm x) (fmD x.1 (toNds x.2.1)) :=
  LeD.agg (LeL.cons (LeD.refl _) (LeL.cons (leNds _) LeL.nil))
theorem toNds_len (l : List vNode) : (toNds l).length = l.length := List.length_map ..
theorem fm_wf {x : vFm} (h : Ty.wf tFm x) : x.1.length ≤ maxLen ∧ (toNds x.2.1).length ≤ maxLen := ⟨h.1, by rw [toNds_len]; exact h.2.1.1⟩
def lightF (s : List UInt8) (e : List Nd) : Bool := decide (s.length ≤ 60) && (decide (e.length ≤ 80) && e.all fun n => decide (n.2.1.length ≤ 60))
theorem lightF_len {s : List UInt8} {e : List Nd} (h : lightF s e = true) : e.length ≤ 80 := by
  unfold lightF at h
  simp only [Bool.and_eq_true, decide_eq_true_eq] at h
  exact h.2.1
theorem vld_of {s : List UInt8} {e : List Nd} (h : vld s e = true) : isName s = true ∧ Built e ∧ e.length ≤ 64 := by
  unfold vld at h
  simp only [Bool.and_eq_true, decide_eq_true_eq] at h
  exact ⟨h.1, cnt_built.1 h.2.1, h.2.2⟩
theorem vld_mk {s : List UInt8} {e : List Nd} (h1 : isName s = true) (h2 : Built e) : vld s e = decide (e.length ≤ 64) := by
  unfold vld
  rw [h1, cnt_built.2 h2]; simp
theorem built_bi {op : Int} {e1 e2 : List Nd} (h1 : 5 ≤ op) (h2 : op ≤ 9) (b1 : Built e1) (b2 : Built e2) : Built ((op, [], (0 : Int)) :: (e1 ++ e2)) := by
  obtain ⟨T1, rfl, o1⟩ := b1
  obtain ⟨T2, rfl, o2⟩ := b2
  exact ⟨.bi op T1 T2, rfl, h1, h2, o1, o2⟩
end Go.Vw

/-
  Small functions of the law; the law on growing. Conditions: none.
-/
set_option maxHeartbeats 8000000
namespace Go.Proofs.YtfnonogemgnlhaaDoor
open Go.Vw
attribute [local irreducible] awp awpL awpR

theorem law09_light (s : List UInt8) (e : List Nd) (hs : s.length ≤ maxLen) (hl : e.length ≤ maxLen) : Ret Tryd.prog 14 [fmD s e] (· = .bool (lightF s e)) := by
  unfold lightF
  have mx : maxLen ≤ 9223372036854775807 := by decide
  by_cases h1 : s.length ≤ 60
  · by_cases h2 : e.length ≤ 80
    · simp only [h1, h2, decide_true, Bool.true_and]
      refine ret_of_awp tab Tryd.func14 rfl rfl (Nat.le_of_ble_eq_true rfl) (fun w0 F0 => ?_)
      repeat' (first | refine wG ?_ | refine wR ?_ | refine wS ?_ ?_ <;> intro _ | refine finG ?_)
      refine awp_loop1 (fun (i : Nat) => ([(1, .ptr 1 0), (3, .d (.int .i64 i))], [(1, .box fmT [.d (.str s), .d (ndsD e)])])) (fun i => i ≤ e.length ∧ ((e.drop i).all fun n => decide (n.2.1.length ≤ 60)) = e.all fun n => decide (n.2.1.length ≤ 60)) (fun i => e.length - i) 0 ⟨by omega, rfl⟩ ⟨rfl, rfl, rfl⟩ ⟨rfl, trivial⟩ (fun i hi => ?_)
      obtain ⟨hi, hc⟩ := hi
      rw [← hc]
      clear hc
      by_cases g : i < e.length
      · have hd : e.drop i = e[i]?.getD nd0 :: e.drop (i + 1) := by
          rw [List.drop_eq_getElem_cons g]; simp [g]
        rw [hd, List.all_cons]
        by_cases hb : (e[i]?.getD nd0).2.1.length ≤ 60
        · have hb2 : (e.getD i nd0).2.1.length ≤ 60 := hb
          simp only [hb, decide_true, Bool.true_and]
          repeat' (first | refine wG ?_ | refine wR ?_ | refine wS ?_ ?_ <;> intro _ | refine finG ?_)
          exact ⟨i + 1, ⟨by omega, rfl⟩, by omega, ⟨rfl, iv (by omega), rfl⟩, rfl, trivial⟩
        · have hb2 : ¬ (e.getD i nd0).2.1.length ≤ 60 := hb
          simp only [hb, decide_false, Bool.false_and]
          repeat' (first | refine wG ?_ | refine wR ?_ | refine wS ?_ ?_ <;> intro _ | refine finG ?_)
          all_goals rfl
      · rw [List.drop_eq_nil_of_le (by omega)]
        repeat' (first | refine wG ?_ | refine wR ?_ | refine wS ?_ ?_ <;> intro _ | refine finG ?_)
        all_goals rfl
    · simp only [h1, h2, decide_true, decide_false, Bool.true_and, Bool.false_and]
      refine ret_of_awp tab Tryd.func14 rfl rfl (Nat.le_of_ble_eq_true rfl) (fun w0 F0 => ?_)
      repeat' (first | refine wG ?_ | refine wR ?_ | refine wS ?_ ?_ <;> intro _ | refine finG ?_)
      all_goals rfl
  · simp only [h1, decide_false, Bool.false_and]
    refine ret_of_awp tab Tryd.func14 rfl rfl (Nat.le_of_ble_eq_true rfl) (fun w0 F0 => ?_)
    repeat' (first | refine wG ?_ | refine wR ?_ | refine wS ?_ ?_ <;> intro _ | refine finG ?_)
    all_goals rfl
theorem tmodFact9 (k n : Int) (h : 0 < n) : -n < k.tmod n ∧ k.tmod n < n ∧ k % n = if k.tmod n < 0 then k.tmod n + n else k.tmod n := by
  have h1 := Int.tmod_lt_of_pos k h
  have h2 := Int.lt_tmod_of_pos k h
  have h3 := Int.emod_nonneg k (show n ≠ 0 by omega)
  have h4 := Int.emod_lt_of_pos k h
  have e1 := Int.mul_tdiv_add_tmod k n
  have e2 := Int.mul_ediv_add_emod k n
  refine ⟨h2, h1, ?_⟩
  have hd : n * (k.tdiv n - k / n) = k % n - k.tmod n := by rw [Int.mul_sub]; omega
  split
  · have hb : -(2 * n) < n * (k.tdiv n - k / n) ∧ n * (k.tdiv n - k / n) < 2 * n ∧ 0 < n * (k.tdiv n - k / n) := by omega
    have h5 : 0 < k.tdiv n - k / n := Int.pos_of_mul_pos_right hb.2.2 h
    have h6 : k.tdiv n - k / n < 2 := by
      rcases Int.lt_or_le (k.tdiv n - k / n) 2 with h7 | h7
      · exact h7
      · have := Int.mul_le_mul_of_nonneg_left h7 (Int.le_of_lt h); omega
    rw [show k.tdiv n - k / n = 1 by omega] at hd
    omega
  · have hb : -n < n * (k.tdiv n - k / n) ∧ n * (k.tdiv n - k / n) < n := by omega
    have h5 : -1 < k.tdiv n - k / n := by
      rcases Int.lt_or_le (-1) (k.tdiv n - k / n) with h7 | h7
      · exact h7
      · have := Int.mul_le_mul_of_nonneg_left h7 (Int.le_of_lt h); omega
    have h6 : k.tdiv n - k / n < 1 := by
      rcases Int.lt_or_le (k.tdiv n - k / n) 1 with h7 | h7
      · exact h7
      · have := Int.mul_le_mul_of_nonneg_left h7 (Int.le_of_lt h); omega
    rw [show k.tdiv n - k / n = 0 by omega] at hd
    omega
theorem law09_Mod (k n : Int) (hk : -9223372036854775808 ≤ k) (hk' : k < 9223372036854775808) (h : 0 < n) (h' : n < 10000000) : Ret Tryd.prog 20 [.int .i64 k, .int .i64 n] (· = .int .i64 (k % n)) := by
  obtain ⟨t1, t2, t3⟩ := tmodFact9 k n h
  rw [t3]
  refine ret_of_awp tab Tryd.func20 rfl rfl (Nat.le_of_ble_eq_true rfl) (fun w0 F0 => ?_)
  repeat' (first | refine wG ?_ | refine wR ?_ | refine wS ?_ ?_ <;> intro _ | refine finG ?_)
  · rename_i hc; rw [if_pos hc]
  · rename_i hc; rw [if_neg hc]
end Go.Proofs.YtfnonogemgnlhaaDoor

/-
  Drawn regions with one new list of the call's own (a literal, appends), one new variable, and loads beside them. Conditions: the table of types is the program's.
-/
namespace Go.Vw
open Go.RowKit
inductive UpdG : Type 1 where
  | reg (d : Option Tmp) (x : V)
  | app (d : Tmp) (x : V) (ob : Option Blk)
  | box (b : Blk)
def UpdG.dst (al : Nat) : UpdG → Option Tmp
  | .reg d _ => d
  | .app d _ _ => some d
  | .box _ => some al
def UpdG.isA : UpdG → Bool
  | .app _ _ _ => true
  | _ => false
def UpdG.isX : UpdG → Bool
  | .box _ => true
  | _ => false
section
variable (kx al : Nat)
def newO (s : St) : Option Blk → St
  | some b => s.new kx b
  | none => s
def apG (s : St) : UpdG → St
  | .reg d x => s.put d x
  | .app d x ob => (newO kx s ob).put (some d) x
  | .box b => (s.withBlk al b).put (some al) (.ptr al 0)
def accG (s : St) (us : Nat → UpdG) (L : Nat → Bool) : Nat → St
  | 0 => s
  | n + 1 => bif L n then apG kx al (accG s us L n) (us n) else accG s us L n
end
section
variable {kx al : Nat} {s : St} {us : Nat → UpdG} {L L' : Nat → Bool}
theorem newO_noKey {s : St} {ob : Option Blk} {t : Nat} (h : (s.tmps t).noKey kx = true) : (newO kx s ob).tmps t = s.tmps t := by
  cases ob with
  | none => rfl
  | some b => show (s.new kx b).tmps t = _; rw [new_tmps, V.sub_noKey _ h]
theorem accG_congr : ∀ m, (∀ j, j < m → L j = L' j) → accG kx al s us L m = accG kx al s us L' m
  | 0, _ => rfl
  | m + 1, h => by simp only [accG]; rw [accG_congr m (fun j hj => h j (by omega)), h m (by omega)]
theorem accG_insert {i : Nat} (hL : L i = false) : ∀ n, i < n → (∀ j, i < j → j < n → L j = true → apG kx al (apG kx al (accG kx al s us L j) (us i)) (us j) = apG kx al (apG kx al (accG kx al s us L j) (us j)) (us i)) → accG kx al s us (insL L i) n = apG kx al (accG kx al s us L n) (us i)
  | 0, h, _ => by omega
  | n + 1, h, hc => by
    have same : ∀ j, j ≠ i → insL L i j = L j := fun j hj => by unfold insL; rw [beq_of_ne hj]; rfl
    have hi : insL L i i = true := by unfold insL; simp
    simp only [accG]
    by_cases e : i = n
    · subst e
      have h2 : accG kx al s us (insL L i) i = accG kx al s us L i := by
        have : ∀ m, m ≤ i → accG kx al s us (insL L i) m = accG kx al s us L m := by
          intro m
          induction m with
          | zero => intro _; rfl
          | succ m ih => intro hm; simp only [accG]; rw [ih (by omega), same m (by omega)]
        exact this i (Nat.le_refl _)
      rw [hi, hL, h2]; rfl
    · rw [accG_insert hL n (by omega) (fun j h1 h2 => hc j h1 (by omega)), same n (Ne.symm e)]
      cases hn : L n with
      | true => simp only [cond_true]; exact hc n (by omega) (by omega) hn
      | false => rfl
theorem accG_reg {t : Nat} (h0 : (s.tmps t).noKey kx = true) : ∀ n, (∀ i, i < n → (us i).dst al = some t → L i = L' i ∧ (us i).isA = false) → (∀ i, i < n → ∀ d x, us i = .reg d x → x.noKey kx = true) → al ≠ kx →
    (accG kx al s us L n).tmps t = (accG kx al s us L' n).tmps t ∧ ((accG kx al s us L n).tmps t).noKey kx = true
  | 0, _, _, _ => ⟨rfl, h0⟩
  | n + 1, h1, h2, h3 => by
    obtain ⟨ih, ik⟩ := accG_reg h0 n (fun i hi => h1 i (by omega)) (fun i hi => h2 i (by omega)) h3
    simp only [accG]
    cases hu : us n with
    | reg d x =>
      by_cases hd : d = some t
      · subst hd
        rw [(h1 n (by omega) (by rw [hu]; rfl)).1]
        have hx := h2 n (by omega) _ x hu
        cases L' n with
        | true => simp only [cond_true, apG, put_tmps, if_true, true_and]; exact hx
        | false => exact ⟨ih, ik⟩
      · have e : ∀ (b : Bool) (s0 : St), (bif b then apG kx al s0 (.reg d x) else s0).tmps t = s0.tmps t := fun b s0 => by cases b <;> simp only [cond_true, cond_false, apG]; exact put_ne hd
        rw [e, e]; exact ⟨ih, ik⟩
    | app d x ob =>
      have hd : ¬ t = d := fun e => by
        have := (h1 n (by omega) (by rw [hu, e]; rfl)).2
        rw [hu] at this; cases this
      have hk' : ((accG kx al s us L' n).tmps t).noKey kx = true := by rw [← ih]; exact ik
      have e : ∀ (b' : Bool) (s0 : St), (s0.tmps t).noKey kx = true → (bif b' then apG kx al s0 (.app d x ob) else s0).tmps t = s0.tmps t := fun b' s0 hs => by
        cases b' with
        | true => simp only [cond_true, apG]; rw [put_tmps, if_neg hd, newO_noKey hs]
        | false => rfl
      rw [e _ _ ik, e _ _ hk']; exact ⟨ih, ik⟩
    | box b =>
      by_cases hd : al = t
      · subst hd
        rw [(h1 n (by omega) (by rw [hu]; rfl)).1]
        cases L' n with
        | true =>
          simp only [cond_true, apG, put_tmps, if_true, true_and, V.noKey]
          rw [beq_of_ne h3]; rfl
        | false => exact ⟨ih, ik⟩
      · have e : ∀ (b' : Bool) (s0 : St), (bif b' then apG kx al s0 (.box b) else s0).tmps t = s0.tmps t := fun b' s0 => by cases b' <;> simp only [cond_true, cond_false, apG]; rw [put_tmps, if_neg (Ne.symm hd)]; rfl
        rw [e, e]; exact ⟨ih, ik⟩
theorem accG_app {t : Nat} : ∀ n, (∀ i, i < n → (us i).dst al = some t → L i = L' i) → (∀ i, i < n → (us i).isA = true → L i = L' i) → (accG kx al s us L n).tmps t = (accG kx al s us L' n).tmps t
  | 0, _, _ => rfl
  | n + 1, h1, h2 => by
    have ih := accG_app n (fun i hi => h1 i (by omega)) (fun i hi => h2 i (by omega))
    simp only [accG]
    cases hu : us n with
    | reg d x =>
      by_cases hd : d = some t
      · subst hd
        rw [h1 n (by omega) (by rw [hu]; rfl)]
        cases L' n with
        | true => simp only [cond_true, apG, put_tmps, if_true]
        | false => exact ih
      · have e : ∀ (b : Bool) (s0 : St), (bif b then apG kx al s0 (.reg d x) else s0).tmps t = s0.tmps t := fun b s0 => by cases b <;> simp only [cond_true, cond_false, apG]; exact put_ne hd
        rw [e, e]; exact ih
    | app d x ob =>
      rw [h2 n (by omega) (by rw [hu]; rfl)]
      cases L' n with
      | true =>
        simp only [cond_true, apG, put_tmps]
        cases ob with
        | none => show (if t = d then x else (accG kx al s us L n).tmps t) = (if t = d then x else (accG kx al s us L' n).tmps t); rw [ih]
        | some b => show (if t = d then x else ((accG kx al s us L n).new kx b).tmps t) = (if t = d then x else ((accG kx al s us L' n).new kx b).tmps t); rw [new_tmps, new_tmps, ih]
      | false => exact ih
    | box b =>
      by_cases hd : al = t
      · subst hd
        rw [h1 n (by omega) (by rw [hu]; rfl)]
        cases L' n with
        | true => simp only [cond_true, apG, put_tmps, if_true]
        | false => exact ih
      · have e : ∀ (b' : Bool) (s0 : St), (bif b' then apG kx al s0 (.box b) else s0).tmps t = s0.tmps t := fun b' s0 => by cases b' <;> simp only [cond_true, cond_false, apG]; rw [put_tmps, if_neg (Ne.symm hd)]; rfl
        rw [e, e]; exact ih
theorem wb_ne {s : St} {k j : Nat} {b : Blk} (h : j ≠ k) : (s.withBlk k b).blk j = s.blk j := withBlk_ne h
theorem new_blk {s : St} {k j : Nat} {b : Blk} : (s.new k b).blk j = bif Nat.beq j k then some b else (s.sub k none).blk j := rfl
theorem accG_blk {j : Nat} (hj : j ≠ al) : ∀ n, (∀ i, i < n → (us i).isA = true → L i = L' i) → (accG kx al s us L n).blk j = (accG kx al s us L' n).blk j
  | 0, _ => rfl
  | n + 1, h => by
    have ih := accG_blk hj n fun i hi => h i (by omega)
    simp only [accG]
    cases hu : us n with
    | reg d x =>
      have e : ∀ (b : Bool) (s0 : St), (bif b then apG kx al s0 (.reg d x) else s0).blk j = s0.blk j := fun b s0 => by cases b <;> simp [apG, put_blk]
      rw [e, e, ih]
    | app d x ob =>
      rw [h n (by omega) (by rw [hu]; rfl)]
      cases L' n with
      | true =>
        simp only [cond_true, apG, put_blk]
        cases ob with
        | none => exact ih
        | some b =>
          show ((accG kx al s us L n).new kx b).blk j = ((accG kx al s us L' n).new kx b).blk j
          rw [new_blk, new_blk]
          simp only [St.sub, ih]
      | false => exact ih
    | box b =>
      have e : ∀ (b' : Bool) (s0 : St), (bif b' then apG kx al s0 (.box b) else s0).blk j = s0.blk j := fun b' s0 => by
        cases b' with
        | false => rfl
        | true => simp only [cond_true, apG, put_blk]; exact wb_ne hj
      rw [e, e, ih]
theorem accG_out {j : Nat} {b0 : Blk} (hj : j ≠ al) (hk : j ≠ kx) (h0 : s.blk j = some b0) (hb : b0.noKey kx = true) : ∀ n, (accG kx al s us L n).blk j = some b0
  | 0 => h0
  | n + 1 => by
    have ih := accG_out hj hk h0 hb n
    simp only [accG]
    cases L n with
    | false => exact ih
    | true =>
      simp only [cond_true]
      cases hu : us n with
      | reg d x => simp only [apG, put_blk]; exact ih
      | app d x ob =>
        simp only [apG, put_blk]
        cases ob with
        | none => exact ih
        | some b =>
          show ((accG kx al s us L n).new kx b).blk j = some b0
          rw [new_blk, beq_of_ne hk]
          simp only [cond_false, St.sub, beq_of_ne hk, ih, Blk.sub_noKey hb]
      | box b => simp only [apG, put_blk]; rw [wb_ne hj]; exact ih
theorem accG_dfs (h : s.dfs = []) : ∀ n, (accG kx al s us L n).dfs = []
  | 0 => h
  | n + 1 => by
    have ih := accG_dfs h n
    simp only [accG]
    cases L n with
    | false => exact ih
    | true =>
      simp only [cond_true]
      cases hu : us n with
      | reg d x => simp only [apG, put_dfs]; exact ih
      | app d x ob =>
        simp only [apG, put_dfs]
        cases ob with
        | none => exact ih
        | some b => exact new_dfs ih
      | box b => simp only [apG, put_dfs]; exact ih
theorem accG_free (h0 : FreeSt al s) (hdf : s.dfs = []) (hne : al ≠ kx) : ∀ n, (∀ i, i < n → L i = true → (us i).isX = false ∧ (∀ d x, us i = .reg d x → x.noKey al = true) ∧ (∀ d x ob, us i = .app d x ob → x.noKey al = true ∧ ∀ b, ob = some b → b.noKey al = true)) → FreeSt al (accG kx al s us L n)
  | 0, _ => h0
  | n + 1, h => by
    have ih := accG_free h0 hdf hne n fun i hi => h i (by omega)
    have hdd := accG_dfs (kx := kx) (al := al) (us := us) (L := L) hdf (n + 1)
    simp only [accG] at hdd ⊢
    cases hL : L n with
    | false => exact ih
    | true =>
      rw [hL] at hdd
      simp only [cond_true] at hdd ⊢
      obtain ⟨h1, h2, h3⟩ := h n (by omega) hL
      cases hu : us n with
      | box b => rw [hu] at h1; cases h1
      | reg d x =>
        rw [hu] at hdd
        refine ⟨fun t => ?_, fun j b hj => ?_, by rw [hdd]; rfl, ?_⟩
        · by_cases hd : d = some t
          · subst hd; simp only [apG, put_tmps, if_true]; exact h2 _ _ hu
          · simp only [apG]; rw [put_ne hd]; exact ih.tm t
        · simp only [apG, put_blk] at hj; exact ih.bl j b hj
        · simp only [apG, put_blk]; exact ih.no
      | app d x ob =>
        rw [hu] at hdd
        obtain ⟨g1, g2⟩ := h3 d x ob hu
        refine ⟨fun t => ?_, fun j b hj => ?_, by rw [hdd]; rfl, ?_⟩
        · simp only [apG, put_tmps]
          split
          · exact g1
          · cases ob with
            | none => exact ih.tm t
            | some b => show (((accG kx al s us L n).new kx b).tmps t).noKey al = true; rw [new_tmps]; exact V.noKey_subO _ (ih.tm t)
        · simp only [apG, put_blk] at hj
          cases ob with
          | none => exact ih.bl j b hj
          | some b' =>
            have hj : ((accG kx al s us L n).new kx b').blk j = some b := hj
            rw [new_blk] at hj
            cases hb : Nat.beq j kx with
            | true => rw [hb] at hj; cases hj; exact g2 _ rfl
            | false =>
              rw [hb] at hj
              simp only [cond_false] at hj
              obtain ⟨_, b0, hb0, rfl⟩ := sub_blk hj
              exact Blk.noKey_subO (ih.bl j b0 hb0)
        · simp only [apG, put_blk]
          cases ob with
          | none => exact ih.no
          | some b' =>
            show ((accG kx al s us L n).new kx b').blk al = none
            rw [new_blk, beq_of_ne hne]
            simp only [cond_false, St.sub, beq_of_ne hne, ih.no]
end

def isLG (o : Oper) : Bool := match o.op with
  | .call c => (match c.callee with | .builtin .append => true | _ => false)
  | .buildSlice .. => true
  | .build .. => true
  | _ => false
def conflG (all : Array Oper) (a b : Oper) : Bool := looksB all b a.dst || looksB all a b.dst || (match a.dst, b.dst with | some x, some y => x == y | _, _ => false) || (isLG a && isLG b)
def ordG (ops : Array Oper) (n : Nat) : Bool :=
  backward ops && Nat.ble n ops.size &&
  ((List.range n).all fun j => match ops[j]? with
    | some b => (List.range j).all fun i => match ops[i]? with
      | some a => !(conflG ops a b) || ((masks ops.toList []).getD j 0).testBit i
      | none => false
    | none => false) &&
  ((List.range ops.size).all fun i => Nat.blt i n || Nat.beq ((masks ops.toList []).getD i 0) (2 ^ i - 1)) &&
  ((List.range n).all fun j => match ops[j]? with
    | some b => isLG b || (List.range n).all fun i => match ops[i]? with | some a => !(isLG a) || !(looksB ops b a.dst) | none => false
    | none => false)
structure OrdG (ops : Array Oper) (n : Nat) : Prop where
  tf : TailFacts ops n
  ord : ∀ i j a b, i < j → j < n → ops[i]? = some a → ops[j]? = some b → conflG ops a b = true → ((masks ops.toList []).getD j 0).testBit i = true
  reg : ∀ i j a b, i < n → j < n → ops[i]? = some a → ops[j]? = some b → isLG a = true → isLG b = false → looksB ops b a.dst = false
theorem ordG_spec {ops : Array Oper} {n : Nat} (h : ordG ops n = true) : OrdG ops n := by
  simp only [ordG, Bool.and_eq_true] at h
  obtain ⟨⟨⟨⟨hb, hle⟩, hm⟩, ht⟩, hr⟩ := h
  refine ⟨⟨fun i o hi e he hbind => ?_, Nat.le_of_ble_eq_true hle, fun i h1 h2 j hj => ?_⟩, fun i j a b hij hj ha hb' hc => ?_, fun i j a b hi hj ha hb' h1 h2 => ?_⟩
  · simp only [backward, List.all_eq_true, List.mem_range] at hb
    have := hb i (Array.getElem?_eq_some_iff.1 hi).1
    rw [hi] at this
    simp only [List.all_eq_true] at this
    have := this e (by simpa using he)
    rw [hbind] at this
    simpa [Nat.blt_eq] using this
  · simp only [List.all_eq_true, List.mem_range] at ht
    have h3 := ht i h2
    have hnb : Nat.blt i n = false := by
      cases hq : Nat.blt i n with
      | false => rfl
      | true => have : i < n := by simpa [Nat.blt_eq] using hq
                omega
    rw [hnb, Bool.false_or] at h3
    have h4 := Nat.eq_of_beq_eq_true h3
    rw [h4, Nat.testBit_two_pow_sub_one]
    simpa using hj
  · simp only [List.all_eq_true, List.mem_range] at hm
    have h1 := hm j hj
    rw [hb'] at h1
    simp only [List.all_eq_true, List.mem_range] at h1
    have h2 := h1 i hij
    rw [ha] at h2
    simp only [hc, Bool.not_true, Bool.false_or] at h2
    exact h2
  · simp only [List.all_eq_true, List.mem_range] at hr
    have h3 := hr j hj
    rw [hb'] at h3
    simp only [h2, Bool.false_or, List.all_eq_true, List.mem_range] at h3
    have h4 := h3 i hi
    rw [ha] at h4
    simpa only [h1, Bool.not_true, Bool.false_or, Bool.not_eq_true'] using h4

def Rest (kx al : Nat) (s0 s' : St) : Prop := ∀ j b, j ≠ kx → j ≠ al → s0.blk j = some b → b.noKey kx = true → s'.blk j = some b
inductive PRunG (X : Ctx) (all : Array Oper) (kx al c : Nat) (s0 : St) : Nat → List Oper → St → St → Prop
  | nil {m : Nat} {s : St} : PRunG X all kx al c s0 m [] s s
  | reg {m : Nat} {o : Oper} {rest : List Oper} {s s' : St} {x : V} (hlg : isLG o = false) (hd : dstOk X.N o.dst = true) (h : ∀ s' : St, (∀ t ∈ o.looksAt all, s'.tmps t = s.tmps t) → Rest kx al s0 s' → M1 X all s' o x) (hx : x.noKey kx = true) (ha : x.noKey al = true) (k : PRunG X all kx al c s0 (m + 1) rest (s.put o.dst x) s') : PRunG X all kx al c s0 m (o :: rest) s s'
  | app {m : Nat} {o : Oper} {rest : List Oper} {s s' : St} {d : Tmp} {x : V} {ob : Option Blk} (hlg : isLG o = true) (hd : o.dst = some d) (h : ∀ s' : St, (∀ j, j ≠ al → s'.blk j = s.blk j) → (∀ t ∈ o.looksAt all, s'.tmps t = s.tmps t) → E1 X all s' o ((newO kx s' ob).put (some d) x)) (ha : x.noKey al = true) (hb : ∀ b, ob = some b → b.noKey al = true) (k : PRunG X all kx al c s0 (m + 1) rest ((newO kx s ob).put (some d) x) s') : PRunG X all kx al c s0 m (o :: rest) s s'
  | box {m : Nat} {o : Oper} {rest : List Oper} {s s' : St} {b : Blk} (hmc : m = c) (hlg : isLG o = false) (hd : o.dst = some al) (hb : b.noKey kx = true) (h : A1 X all o al b) (k : PRunG X all kx al c s0 (m + 1) rest ((s.withBlk al b).put (some al) (.ptr al 0)) s') : PRunG X all kx al c s0 m (o :: rest) s s'
inductive UpdOkG (X : Ctx) (all : Array Oper) (kx al c : Nat) (s0 : St) (m : Nat) (s : St) (o : Oper) : UpdG → Prop
  | reg {x : V} (hlg : isLG o = false) (hd : dstOk X.N o.dst = true) (h : ∀ s' : St, (∀ t ∈ o.looksAt all, s'.tmps t = s.tmps t) → Rest kx al s0 s' → M1 X all s' o x) (hx : x.noKey kx = true) (ha : x.noKey al = true) : UpdOkG X all kx al c s0 m s o (.reg o.dst x)
  | app {d : Tmp} {x : V} {ob : Option Blk} (hlg : isLG o = true) (hd : o.dst = some d) (h : ∀ s' : St, (∀ j, j ≠ al → s'.blk j = s.blk j) → (∀ t ∈ o.looksAt all, s'.tmps t = s.tmps t) → E1 X all s' o ((newO kx s' ob).put (some d) x)) (ha : x.noKey al = true) (hb : ∀ b, ob = some b → b.noKey al = true) : UpdOkG X all kx al c s0 m s o (.app d x ob)
  | box {b : Blk} (hmc : m = c) (hlg : isLG o = false) (hd : o.dst = some al) (hb : b.noKey kx = true) (h : A1 X all o al b) : UpdOkG X all kx al c s0 m s o (.box b)
theorem prunG_us {X : Ctx} {all : Array Oper} {kx al c : Nat} {s0 : St} : ∀ {l : List Oper} {m : Nat} {s s' : St}, PRunG X all kx al c s0 m l s s' → ∃ us : Nat → UpdG, s' = accG kx al s us (fun _ => true) l.length ∧ ∀ i o, l[i]? = some o → UpdOkG X all kx al c s0 (m + i) (accG kx al s us (fun _ => true) i) o (us i)
  | [], m, s, s', h => by
    cases h
    exact ⟨fun _ => .reg none (.d .undef), rfl, fun i o h => by simp at h⟩
  | o :: rest, m, s, s', h => by
    have shift : ∀ (u0 : UpdG) (us : Nat → UpdG) (m : Nat) (s0 : St), accG kx al s0 (fun i => match i with | 0 => u0 | i + 1 => us i) (fun _ => true) (m + 1) = accG kx al (apG kx al s0 u0) us (fun _ => true) m := fun u0 us m s0 => by
      induction m with
      | zero => rfl
      | succ m ih => rw [accG, ih]; rfl
    have fin : ∀ (u0 : UpdG), UpdOkG X all kx al c s0 m s o u0 → PRunG X all kx al c s0 (m + 1) rest (apG kx al s u0) s' → ∃ us : Nat → UpdG, s' = accG kx al s us (fun _ => true) (o :: rest).length ∧ ∀ i o', (o :: rest)[i]? = some o' → UpdOkG X all kx al c s0 (m + i) (accG kx al s us (fun _ => true) i) o' (us i) := fun u0 h0 hk => by
      obtain ⟨us, h1, h2⟩ := prunG_us hk
      refine ⟨fun i => match i with | 0 => u0 | i + 1 => us i, ?_, fun i o' hi => ?_⟩
      · rw [List.length_cons, shift, h1]
      · cases i with
        | zero => simp at hi; subst hi; exact h0
        | succ i => rw [shift, show m + (i + 1) = m + 1 + i by omega]; exact h2 i o' (by simpa using hi)
    cases h with
    | reg h1 h2 h3 h4 h5 hk => exact fin _ (.reg h1 h2 h3 h4 h5) hk
    | app h1 h2 h3 h4 h5 hk => exact fin _ (.app h1 h2 h3 h4 h5) hk
    | box h1 h2 h3 h4 h5 hk => exact fin _ (.box h1 h2 h3 h4 h5) hk
end Go.Vw

/-
  Drawn regions with one new list of the call's own, one new variable, and loads: the rule. Conditions: the table of types is the program's.
-/
namespace Go.Vw
open Go.RowKit
theorem put_wb {s : St} {d : Option Tmp} {x : V} {k : Nat} {b : Blk} : (s.put d x).withBlk k b = (s.withBlk k b).put d x := by cases d <;> rfl
theorem newO_put {kx : Nat} {s : St} {d : Option Tmp} {x : V} {ob : Option Blk} (h : x.noKey kx = true) : newO kx (s.put d x) ob = (newO kx s ob).put d x := by
  cases ob with
  | none => rfl
  | some b => exact new_put h
theorem newO_wb {kx al : Nat} {s : St} {b : Blk} {ob : Option Blk} (h : b.noKey kx = true) (hne : al ≠ kx) : newO kx (s.withBlk al b) ob = (newO kx s ob).withBlk al b := by
  cases ob with
  | none => rfl
  | some b0 =>
    refine St.eta rfl (funext fun j => ?_) rfl
    show ((s.withBlk al b).new kx b0).blk j = ((s.new kx b0).withBlk al b).blk j
    by_cases hj : j = al
    · subst hj
      rw [withBlk_same, new_blk, beq_of_ne hne]
      simp only [cond_false, St.sub, beq_of_ne hne, withBlk_same, Blk.sub_noKey h]
    · rw [wb_ne hj, new_blk, new_blk]
      simp only [St.sub, wb_ne hj]
theorem ptr_noKey {al kx : Nat} (h : al ≠ kx) : (V.ptr al 0).noKey kx = true := by
  simp only [V.noKey]; rw [beq_of_ne h]; rfl
theorem app_box {kx al : Nat} {s : St} {d : Tmp} {x : V} {ob : Option Blk} {b : Blk} (hb : b.noKey kx = true) (hne : al ≠ kx) (hd : d ≠ al) : apG kx al (apG kx al s (.app d x ob)) (.box b) = apG kx al (apG kx al s (.box b)) (.app d x ob) := by
  simp only [apG]
  rw [newO_put (ptr_noKey hne), newO_wb hb hne, put_wb]
  exact put_comm (d := some d) (d' := some al) (fun t e1 e2 => hd (by cases e1; cases e2; rfl))
theorem awp_region_list {X : Ctx} (hm : X.P.follows .mixedOrders = true) {id : Nat} {ops : List Oper} (n c kx al : Nat) (hne : al ≠ kx) (hok : ordG ops.toArray n = true) {Q : Exit → St → Prop} {sx s1 : St} (hK1 : X.K.contains kx = false) (hK2 : X.K.contains al = false) (hdf : sx.dfs = []) (hrun : PRunG X ops.toArray kx al c (sx.kills [kx, al]) 0 (ops.take n) (sx.kills [kx, al]) s1) (htail : awpL X ops.toArray (ops.drop n) Q s1) : awp X (.region id ops.toArray true) Q sx := by
  have hf := ordG_spec hok
  have hfree := FreeSt.kills (s := sx) [kx, al]
  have hdf2 : (sx.kills [kx, al]).dfs = [] := by
    show dfSub kx none (dfSub al none sx.dfs) = []
    rw [hdf]; rfl
  have main : awp X (.region id ops.toArray true) Q (sx.kills [kx, al]) := by
    generalize sx.kills [kx, al] = s at hfree hrun hdf2
    have fk := hfree kx (by simp)
    have fa := hfree al (by simp)
    obtain ⟨us, hs1, hx⟩ := prunG_us hrun
    have hle := hf.tf.le
    have hsz : ops.toArray.size = ops.length := rfl
    have getop : ∀ i, i < n → (ops.take n)[i]? = ops.toArray[i]? := fun i hi => by simp [List.getElem?_take, hi]
    have hlen : (ops.take n).length = n := by simp; omega
    rw [hlen] at hs1
    have ok : ∀ i o, i < n → ops.toArray[i]? = some o → UpdOkG X ops.toArray kx al c s i (accG kx al s us (fun _ => true) i) o (us i) := fun i o hi ho => by
      have := hx i o (by rw [getop i hi]; exact ho)
      rwa [Nat.zero_add] at this
    have getn : ∀ j, j < n → ∃ o, ops.toArray[j]? = some o := fun j hj => ⟨_, Array.getElem?_eq_getElem (by omega)⟩
    have dstOf : ∀ i o, i < n → ops.toArray[i]? = some o → (us i).dst al = o.dst ∧ (us i).isA = isLG o := fun i o hi ho => by
      have := ok i o hi ho
      generalize us i = u at this
      cases this with
      | reg h => exact ⟨rfl, h.symm⟩
      | app h hd => exact ⟨hd.symm, h.symm⟩
      | box _ h hd => exact ⟨hd.symm, h.symm⟩
    have isx : ∀ i, i < n → (us i).isX = true → i = c := fun i hi hu => by
      obtain ⟨o, ho⟩ := getn i hi
      have := ok i o hi ho
      generalize us i = u at this hu
      cases this with
      | reg _ => cases hu
      | app _ => cases hu
      | box h => exact h
    have regx : ∀ i, i < n → ∀ d x, us i = .reg d x → x.noKey kx = true ∧ x.noKey al = true := fun i hi d x hu => by
      obtain ⟨o, ho⟩ := getn i hi
      have := ok i o hi ho
      rw [hu] at this
      cases this with
      | reg _ _ _ h1 h2 => exact ⟨h1, h2⟩
    have appx : ∀ i, i < n → ∀ d x ob, us i = .app d x ob → x.noKey al = true ∧ ∀ b, ob = some b → b.noKey al = true := fun i hi d x ob hu => by
      obtain ⟨o, ho⟩ := getn i hi
      have := ok i o hi ho
      rw [hu] at this
      cases this with
      | app _ _ _ h1 h2 => exact ⟨h1, h2⟩
    have boxx : ∀ i, i < n → ∀ b, us i = .box b → b.noKey kx = true := fun i hi b hu => by
      obtain ⟨o, ho⟩ := getn i hi
      have := ok i o hi ho
      rw [hu] at this
      cases this with
      | box _ _ _ h => exact h
    have full : ∀ i, i ≤ n → accG kx al s us (fun _ => true) i = accG kx al s us (fun j => decide (j < i)) n := fun i hi => by
      have h1 : accG kx al s us (fun _ => true) i = accG kx al s us (fun j => decide (j < i)) i := accG_congr i fun j hj => by simp [hj]
      have h2 : ∀ m, i ≤ m → m ≤ n → accG kx al s us (fun j => decide (j < i)) m = accG kx al s us (fun j => decide (j < i)) i := by
        intro m
        induction m with
        | zero => intro h1 _; obtain rfl : i = 0 := by omega
                  rfl
        | succ m ih =>
          intro h1 h2
          by_cases e : i = m + 1
          · rw [e]
          · simp only [accG]; rw [ih (by omega) (by omega)]; simp [show ¬ m < i by omega]
      rw [h1, h2 n hi (Nat.le_refl _)]
    refine awp_region_gen hm n hf.tf (fun L => accG kx al s us L n) (s1 := s1) ?_ (fun L h1 h2 => ?_) (fun L i o hi ho hLi hLn hLp hLc => ?_) htail
    · have : ∀ m, accG kx al s us (fun _ => false) m = s := by
        intro m
        induction m with
        | zero => rfl
        | succ m ih => simp only [accG, cond_false]; exact ih
      exact this n
    · rw [hs1]
      exact accG_congr n fun j hj => h1 j hj
    · have diff : ∀ j b, j < n → ops.toArray[j]? = some b → conflG ops.toArray b o = true ∨ conflG ops.toArray o b = true → L j = decide (j < i) := fun j b hj hb hc => by
        have sym : conflG ops.toArray b o = true ∧ conflG ops.toArray o b = true := by
          have : conflG ops.toArray b o = conflG ops.toArray o b := by
            unfold conflG
            rw [Bool.or_comm (looksB ops.toArray o b.dst), Bool.and_comm (isLG b)]
            congr 1
            congr 1
            cases b.dst <;> cases o.dst <;> simp [Bool.beq_comm, eq_comm]
          rw [this] at hc ⊢
          simpa using hc
        rcases Nat.lt_trichotomy j i with h | h | h
        · rw [decide_eq_true h]; exact hLp j h (hf.ord j i b o h hi hb ho sym.1)
        · subst h; rw [hLi, decide_eq_false (by omega)]
        · rw [decide_eq_false (by omega)]
          cases hL : L j with
          | false => rfl
          | true =>
            have := hLc j hL i (hf.ord i j o b h hj ho hb sym.2)
            rw [hLi] at this; cases this
      have hins : accG kx al s us (insL L i) n = apG kx al (accG kx al s us L n) (us i) := accG_insert hLi n hi fun j hij hjn hLj => by
        obtain ⟨b, hb⟩ := getn j hjn
        have hnc : conflG ops.toArray o b = false := by
          cases hc : conflG ops.toArray o b with
          | false => rfl
          | true =>
            have := hLc j hLj i (hf.ord i j o b hij hjn ho hb hc)
            rw [hLi] at this; cases this
        simp only [conflG, Bool.or_eq_false_iff] at hnc
        obtain ⟨⟨_, h3⟩, h4⟩ := hnc
        have hd : ∀ t, (us i).dst al = some t → (us j).dst al ≠ some t := fun t e1 e2 => by
          rw [(dstOf i o hi ho).1] at e1
          rw [(dstOf j b hjn hb).1] at e2
          rw [e1, e2] at h3
          simp at h3
        have hap : ¬ ((us i).isA = true ∧ (us j).isA = true) := fun ⟨e1, e2⟩ => by
          rw [(dstOf i o hi ho).2] at e1
          rw [(dstOf j b hjn hb).2] at e2
          rw [e1, e2] at h4; cases h4
        generalize accG kx al s us L j = s0
        cases hui : us i with
        | reg d x =>
          have hx := regx i hi d x hui
          rw [hui] at hd
          cases huj : us j with
          | reg d' x' => rw [huj] at hd; simp only [apG]; exact put_comm hd
          | app d' x' ob =>
            rw [huj] at hd
            simp only [apG]
            rw [newO_put hx.1]
            exact put_comm (d := d) (d' := some d') hd
          | box b' =>
            rw [huj] at hd
            simp only [apG]
            rw [put_wb]
            exact put_comm (d := d) (d' := some al) hd
        | app d x ob =>
          rw [hui] at hd hap
          cases huj : us j with
          | reg d' x' =>
            have hx := regx j hjn d' x' huj
            rw [huj] at hd
            simp only [apG]
            rw [newO_put hx.1]
            exact put_comm (d := some d) (d' := d') hd
          | app d' x' ob' => rw [huj] at hap; exact absurd ⟨rfl, rfl⟩ hap
          | box b' =>
            rw [huj] at hd
            exact app_box (boxx j hjn b' huj) hne (fun e => hd d rfl (by rw [e]; rfl))
        | box b' =>
          rw [hui] at hd
          cases huj : us j with
          | reg d' x' =>
            rw [huj] at hd
            simp only [apG]
            rw [put_wb]
            exact put_comm (d := some al) (d' := d') hd
          | app d' x' ob' =>
            rw [huj] at hd
            exact (app_box (boxx i hi b' hui) hne (fun e => hd al rfl (by rw [← e]; rfl))).symm
          | box b'' => rw [huj] at hd; exact absurd rfl (hd al rfl)
      show E1 X ops.toArray (accG kx al s us L n) o (accG kx al s us (insL L i) n)
      rw [hins]
      have hoki := ok i o hi ho
      cases hui : us i with
      | reg d x =>
        rw [hui] at hoki
        cases hoki with
        | reg hlg hd h =>
          refine (h (accG kx al s us L n) (fun t ht => ?_) (fun j b hj1 hj2 hb1 hb2 => accG_out hj2 hj1 hb1 hb2 n)).e1 hd
          rw [full i (by omega)]
          refine (accG_reg (fk.tm t) n (fun j hj hu => ?_) (fun j hj d x hu => (regx j hj d x hu).1) hne).1
          obtain ⟨b, hb⟩ := getn j hj
          have hbd : b.dst = some t := by rw [← (dstOf j b hj hb).1]; exact hu
          refine ⟨diff j b hj hb (.inl (by simp [conflG, hbd, looksB_of ht])), ?_⟩
          rw [(dstOf j b hj hb).2]
          cases hab : isLG b with
          | false => rfl
          | true =>
            have := hf.reg j i b o hj hi hb ho hab hlg
            rw [hbd, looksB_of ht] at this; cases this
      | app d x ob =>
        rw [hui] at hoki
        cases hoki with
        | app hlg hd h =>
          have happ : ∀ j, j < n → (us j).isA = true → L j = decide (j < i) := fun j hj hu => by
            obtain ⟨b', hb'⟩ := getn j hj
            exact diff j b' hj hb' (.inl (by simp [conflG, hlg, ← (dstOf j b' hj hb').2, hu]))
          refine h (accG kx al s us L n) (fun j hj => ?_) (fun t ht => ?_)
          · rw [full i (by omega)]
            exact accG_blk hj n happ
          · rw [full i (by omega)]
            refine accG_app n (fun j hj hu => ?_) happ
            obtain ⟨b', hb'⟩ := getn j hj
            have hbd : b'.dst = some t := by rw [← (dstOf j b' hj hb').1]; exact hu
            exact diff j b' hj hb' (.inl (by simp [conflG, hbd, looksB_of ht]))
      | box b =>
        rw [hui] at hoki
        cases hoki with
        | box hmc hlg hd hb h =>
          refine h (accG kx al s us L n) (accG_free fa hdf2 hne n fun j hj hLj => ⟨?_, fun d x hu => (regx j hj d x hu).2, fun d x ob hu => appx j hj d x ob hu⟩)
          cases hxx : (us j).isX with
          | false => rfl
          | true =>
            have := isx j hj hxx
            have e : j = i := by omega
            subst e
            rw [hLi] at hLj; cases hLj
  intro io F a w hs
  obtain ⟨io', hs'⟩ := SR.kills [kx, al] io (fun k hk => by
    rcases List.mem_cons.1 hk with e | e
    · subst e; simpa [List.contains_eq_mem] using hK1
    · rw [List.mem_singleton.1 e]; simpa [List.contains_eq_mem] using hK2) hs
  exact main io' F a w hs'
end Go.Vw

/-
  copy into a slice of the call's own. Conditions: the table of types is the program's.
-/
namespace Go.Vw
open Go.RowKit
section
variable {X : Ctx} {T : TypeId → Option TyD} (hT : TabOk X.P T) {all : Array Oper} {s : St} {x y : Operand} {t ty e : TypeId} {pos : String} {after : Array Edge} {g : Option (Nat × Bool)} {d : Option Tmp} {td ed : TyD} {k o n : Nat} {α : Type} {en : α → List D} {z : α} {l l2 : List α}
  (hg : gd all s ⟨d, .call ⟨.builtin .copy, #[x, y], #[t, t]⟩, ty, pos, after, g⟩ = some true) (hd : dstOk X.N d = true) (ht : T t = some td) (hds : td.desc = .slice e) (he : T e = some ed)
include hT hg hd ht hds he
end
section
variable {X : Ctx} {all : Array Oper} {o : Oper} {rest : List Oper} {Q : Exit → St → Prop} {s : St} {td ed : TyD} {α : Type} {en : α → List D} {z : α} {l l2 : List α}
end
section
variable {ex : Bool} {X : Ctx} {all : Array Oper} {o : Oper} {pre rest : List Oper} {Q : Exit → St → Prop} {s : St} {td ed : TyD} {α : Type} {en : α → List D} {z : α} {l : List α}
end
/-! ## Where ways meet, in another form -/

def Conv (X : Ctx) (s s' : St) : Prop := ∀ io F a w, SR X io F s a w → ∃ io' F', SR X io' F' s' a w
section
variable {X : Ctx} {s s' s'' : St}
theorem Conv.refl : Conv X s s := fun io F _ _ hs => ⟨io, F, hs⟩
theorem Conv.trans (h : Conv X s s') (k : Conv X s' s'') : Conv X s s'' := fun io F a w hs => by
  obtain ⟨io', F', hs'⟩ := h io F a w hs
  exact k io' F' a w hs'
end
end Go.Vw

/-
  Drawn regions with calls that hand back a list of their own. Conditions: the table of types is the program's.
-/
namespace Go.Vw
open Go.RowKit
def isAppC (o : Oper) : Bool := match o.op with | .call _ => true | _ => false
def conflAC (all : Array Oper) (a b : Oper) : Bool := looksB all b a.dst || looksB all a b.dst || (match a.dst, b.dst with | some x, some y => x == y | _, _ => false) || (isAppC a && isAppC b)
structure OrdAC (ops : Array Oper) (n : Nat) : Prop where
  tf : TailFacts ops n
  ord : ∀ i j a b, i < j → j < n → ops[i]? = some a → ops[j]? = some b → conflAC ops a b = true → ((masks ops.toList []).getD j 0).testBit i = true
  reg : ∀ i j a b, i < n → j < n → ops[i]? = some a → ops[j]? = some b → isAppC a = true → isAppC b = false → looksB ops b a.dst = false
inductive PRunAC (X : Ctx) (all : Array Oper) (ks : List Nat) : List Oper → St → St → Prop
  | nil {s : St} : PRunAC X all ks [] s s
  | reg {o : Oper} {rest : List Oper} {s s' : St} {x : V} (hd : dstOk X.N o.dst = true) (h : ∀ s' : St, (∀ t ∈ o.looksAt all, s'.tmps t = s.tmps t) → M1 X all s' o x) (hna : isAppC o = false) (hx : (ks.all fun k => x.noKey k) = true) (k : PRunAC X all ks rest (s.put o.dst x) s') : PRunAC X all ks (o :: rest) s s'
  | app {o : Oper} {rest : List Oper} {s s' : St} {d : Tmp} {x : V} {k : Nat} {b : Blk} (ha : isAppC o = true) (hd : o.dst = some d) (hk : ks.contains k = true) (h : ∀ s' : St, s'.blk = s.blk → (∀ t ∈ o.looksAt all, s'.tmps t = s.tmps t) → E1 X all s' o ((s'.new k b).put (some d) x)) (kk : PRunAC X all ks rest ((s.new k b).put (some d) x) s') : PRunAC X all ks (o :: rest) s s'
inductive UpdOkAC (X : Ctx) (all : Array Oper) (ks : List Nat) (s : St) (o : Oper) : UpdA → Prop
  | reg {x : V} (hd : dstOk X.N o.dst = true) (h : ∀ s' : St, (∀ t ∈ o.looksAt all, s'.tmps t = s.tmps t) → M1 X all s' o x) (hna : isAppC o = false) (hx : (ks.all fun k => x.noKey k) = true) : UpdOkAC X all ks s o (.reg o.dst x)
  | app {d : Tmp} {x : V} {k : Nat} {b : Blk} (ha : isAppC o = true) (hd : o.dst = some d) (hk : ks.contains k = true) (h : ∀ s' : St, s'.blk = s.blk → (∀ t ∈ o.looksAt all, s'.tmps t = s.tmps t) → E1 X all s' o ((s'.new k b).put (some d) x)) : UpdOkAC X all ks s o (.app d x k b)
section
variable {X : Ctx} {all : Array Oper} {Q : Exit → St → Prop} {s : St} {o : Oper} {pre rest : List Oper} {ks : List Nat}
def isBd (o : Oper) : Bool := match o.op with | .build .. => true | _ => false
theorem evalQ_bd {T : TypeId → Option TyD} {m : Bool} {s' : St} (hm : isBd o = true) (h : ∀ t ∈ o.looksAt all, s'.tmps t = s.tmps t) : evalQ T m s' o.op = evalQ T m s o.op := by
  have hop := fun y hy => opd_agree (s := s) (s' := s') (o := o) (all := all) (y := y) hy h
  unfold isBd at hm
  split at hm
  · rename_i t parts e
    rw [e] at hop ⊢
    have e1 : (parts.toList.map fun p => (p.1, s'.opd p.2)) = parts.toList.map fun p => (p.1, s.opd p.2) := List.map_congr_left fun p hp => by
      rw [hop p.2 (by simp only [Op.operands]; simp; exact ⟨p.1, by simpa using hp⟩)]
    simp only [evalQ, e1]
  · cases hm
end
end Go.Vw

/-
  Drawn regions with one new list of the call's own, one new variable, and loads: the steps. Conditions: the table of types is the program's.
-/
namespace Go.Vw
open Go.RowKit
def awpG (kx al c : Nat) (s0 : St) (m : Nat) (X : Ctx) (all : Array Oper) (pre rest : List Oper) (Q : Exit → St → Prop) (s : St) : Prop := ∃ s1, PRunG X all kx al c s0 m pre s s1 ∧ awpL X all rest Q s1
section
variable {X : Ctx} {all : Array Oper} {Q : Exit → St → Prop} {s s0 : St} {o : Oper} {pre rest : List Oper} {kx al c m : Nat}
theorem awpG_nil (h : awpL X all rest Q s) : awpG kx al c s0 m X all [] rest Q s := ⟨s, .nil, h⟩
theorem stepGQ {d : Tmp} {C : Prop} {x : V} (mm : Bool) (hk : Nat.beq (opK o.op) 0 = true) (hg : gd all s o = some true) (hdst : o.dst = some d) (hd : dstOk X.N (some d) = true) (hq : evalF X.T mm s o.op = some (C, x)) (hC : C) (hfr : (isMove o || isSl o) = true) (hlg : isLG o = false) (hx : x.noKey kx = true) (ha : x.noKey al = true) (k : awpG kx al c s0 (m + 1) X all pre rest Q (s.put (some d) x)) : awpG kx al c s0 m X all (o :: pre) rest Q s := by
  rw [← hdst] at hd k
  obtain ⟨s1, h1, h2⟩ := k
  refine ⟨s1, .reg hlg hd (fun s' hs' _ => m_q mm ((gd_agree hs').trans hg) ?_ hC) hx ha h1, h2⟩
  rw [evalF_eq] at hq ⊢
  rw [Bool.or_eq_true] at hfr
  rcases hfr with hfr | hfr
  · rw [evalQ_move hfr hs']; exact hq
  · rw [evalQ_slice hfr hs']; exact hq
theorem stepGLoad {d : Tmp} {C : Prop} {x : V} {j : Nat} {b : Blk} (mm : Bool) (hk : Nat.beq (opK o.op) 0 = true) (hg : gd all s o = some true) (hdst : o.dst = some d) (hd : dstOk X.N (some d) = true) (hq : evalF X.T mm s o.op = some (C, x)) (hC : C) (hfr : isLoad o = true) (hlg : isLG o = false) (hkey : keyOf s o = some j) (hb : s.blk j = some b) (hb0 : s0.blk j = some b) (hnk : b.noKey kx = true) (hj1 : Nat.beq j kx = false) (hj2 : Nat.beq j al = false) (hx : x.noKey kx = true) (ha : x.noKey al = true) (k : awpG kx al c s0 (m + 1) X all pre rest Q (s.put (some d) x)) : awpG kx al c s0 m X all (o :: pre) rest Q s := by
  rw [← hdst] at hd k
  obtain ⟨s1, h1, h2⟩ := k
  refine ⟨s1, .reg hlg hd (fun s' hs' hr => m_q mm ((gd_agree hs').trans hg) ?_ hC) hx ha h1, h2⟩
  rw [evalF_eq] at hq ⊢
  refine evalQ_load hfr hq hs' fun k' b' hkey' hb' => ?_
  rw [hkey] at hkey'
  cases hkey'
  rw [hb] at hb'
  cases hb'
  exact hr j b (fun e => by subst e; rw [Nat.beq_refl] at hj1; cases hj1) (fun e => by subst e; rw [Nat.beq_refl] at hj2; cases hj2) hb0 hnk
theorem stepGBuild {d : Tmp} {C : Prop} {x : V} (mm : Bool) (hk : Nat.beq (opK o.op) 0 = true) (hg : gd all s o = some true) (hdst : o.dst = some d) (hd : dstOk X.N (some d) = true) (hq : evalF X.T mm s o.op = some (C, x)) (hC : C) (hfr : isBd o = true) (hlg : isLG o = true) (ha : x.noKey al = true) (k : awpG kx al c s0 (m + 1) X all pre rest Q (s.put (some d) x)) : awpG kx al c s0 m X all (o :: pre) rest Q s := by
  obtain ⟨s1, h1, h2⟩ := k
  refine ⟨s1, .app (ob := none) hlg hdst (fun s' hb' hs' => ?_) ha (fun b h => by cases h) h1, h2⟩
  have h : M1 X all s' o x := m_q mm ((gd_agree hs').trans hg) (by
    rw [evalF_eq] at hq ⊢
    rw [evalQ_bd hfr hs']; exact hq) hC
  have := h.e1 (by rw [hdst]; exact hd)
  rw [hdst] at this
  exact this
theorem stepGLit {α : Type} {en : α → List D} {z : α} {l : List α} {e : TypeId} {sz len : Nat} {rows : List (List D)} (hkk : Nat.beq (opK o.op) 5 = true) (hdst : o.dst = some kx) (hg : gd all s o = some true) (hd : dstOk X.N (some kx) = true) (hK : X.K.contains kx = false) (hlg : isLG o = true) (h : evalB X.T s o.op = some (e, sz, len, rows)) (hr : LeR sz rows en l) (hne : Nat.beq kx al = false) (k : awpG kx al c s0 (m + 1) X all pre rest Q ((s.new kx (.data e sz en z l)).put (some kx) (.own kx 0 len e sz))) : awpG kx al c s0 m X all (o :: pre) rest Q s := by
  obtain ⟨s1, h1, h2⟩ := k
  refine ⟨s1, .app (ob := some (.data e sz en z l)) hlg hdst (fun s' hb' hs' => ?_) (by simp only [V.noKey, hne]; rfl) (fun b h => by cases h; rfl) h1, h2⟩
  have hev : evalB X.T s' o.op = some (e, sz, len, rows) := by
    have hop := fun y hy => opd_agree (s := s) (s' := s') (o := o) (all := all) (y := y) hy hs'
    revert h
    cases he : o.op with
    | buildSlice t n parts =>
      rw [he] at hop
      have e1 : (parts.toList.map fun p => (p.1, s'.opd p.2)) = parts.toList.map fun p => (p.1, s.opd p.2) := List.map_congr_left fun p hp => by
        rw [hop p.2 (by simp only [Op.operands]; simp; exact ⟨p.1, by simpa using hp⟩)]
      simp only [evalB, e1]
      exact id
    | _ => intro h; cases h
  have hg' := (gd_agree hs').trans hg
  obtain ⟨dst, op, ty, pos, after, g⟩ := o
  exact e_litO hdst hg' hd hK hev hr
theorem stepGApp {d : Tmp} {td ed : TyD} {α : Type} {en : α → List D} {z : α} {l l2 : List α} {t : TypeId} {cl : Call} {x y : Operand} {e : TypeId} {n : Nat} (hkk : Nat.beq (opK o.op) 3 = true) (hop : o.op = .call cl) (hc : cl = ⟨.builtin .append, #[x, y], #[t, t]⟩) (hdst : o.dst = some d) (hg : gd all s o = some true) (hd : dstOk X.N (some d) = true) (ht : X.T t = some td) (hds : td.desc = .slice e) (he : X.T e = some ed) (hx : s.opd x = .own kx 0 n e ed.size) (hK : X.K.contains kx = false) (hk : s.blk kx = some (.data e ed.size en z l)) (hz : zeroOk ed = true) (hn : n = l.length) (hy : s.opd y = .d (.sl ed.size en z l2)) (hb : l.length + l2.length ≤ 9223372036854775807 ∧ (l.length + l2.length) * ed.bytes ≤ 140737488355328) (hne : Nat.beq kx al = false) (r : awpG kx al c s0 (m + 1) X all pre rest Q ((s.new kx (.data e ed.size en z (l ++ l2))).put (some d) (.own kx 0 (l ++ l2).length e ed.size))) : awpG kx al c s0 m X all (o :: pre) rest Q s := by
  obtain ⟨dst, op, ty, pos, after, g⟩ := o
  cases hop; cases hdst; subst hc
  obtain ⟨s1, h1, h2⟩ := r
  refine ⟨s1, .app (ob := some (.data e ed.size en z (l ++ l2))) rfl rfl (fun s' hb' htm => ?_) (by simp only [V.noKey, hne]; rfl) (fun b h => by cases h; rfl) h1, h2⟩
  have e2 := opd_agree (o := ⟨some d, .call ⟨.builtin .append, #[x, y], #[t, t]⟩, ty, pos, after, g⟩) (all := all) (y := y) (by simp [Op.operands, Call.operands]) htm
  have hka : kx ≠ al := fun q => by subst q; rw [Nat.beq_refl] at hne; cases hne
  exact e_append X.ok ((gd_agree htm).trans hg) hd ht hds he hK ((opd_agree (by simp [Op.operands, Call.operands]) htm).trans hx) (by rw [hb' kx hka]; exact hk) hn (by rw [e2, hy]; exact src_data (LeD.refl _)) hz hb
theorem stepGAlloc {e : TypeId} {ed : TyD} (hkk : Nat.beq (opK o.op) 2 = true) (hmc : Nat.beq m c = true) (hop : o.op = .alloc e) (hdst : o.dst = some al) (hgn : o.guard = none) (he : X.T e = some ed) (hst : (V.d (D.ofV ed.zero)).storable = true) (hd : dstOk X.N (some al) = true) (hK : X.K.contains al = false) (hf : (Blk.box e (V.d (D.ofV ed.zero)).cells).noKey kx = true) (r : awpG kx al c s0 (m + 1) X all pre rest Q ((s.withBlk al (.box e (V.d (D.ofV ed.zero)).cells)).put (some al) (.ptr al 0))) : awpG kx al c s0 m X all (o :: pre) rest Q s := by
  obtain ⟨dst, op, ty, pos, after, g⟩ := o
  cases hop; cases hdst; cases hgn
  obtain ⟨s1, h1, h2⟩ := r
  refine ⟨s1, .box (Nat.eq_of_beq_eq_true hmc) rfl rfl hf (fun s' hs' => ?_) h1, h2⟩
  have hev : evalE X.T s' (some al) (.alloc e) = some (some (.ptr al 0), s'.new al (.box e (V.d (D.ofV ed.zero)).cells)) := by
    simp only [evalE, he, hst]
  have hnew : s'.new al (.box e (V.d (D.ofV ed.zero)).cells) = s'.withBlk al (.box e (V.d (D.ofV ed.zero)).cells) := by unfold St.new; rw [hs'.sub]
  rw [← hnew]
  exact e_eff X.ok (all := all) (o := ⟨some al, .alloc e, ty, pos, after, none⟩) (s := s') rfl hd (fun d' e => by cases e; exact hK) hev
theorem goG {G : Prop} {ops : List Oper} (k : G) (h : G → awpG kx al c s0 m X all ops rest Q s := by
  first
  | exact Go.Vw.stepGQ true Go.Vw.tt Go.Vw.stt rfl rfl rfl Go.Vw.sc rfl rfl rfl rfl
  | exact Go.Vw.awpG_nil
  | exact Go.Vw.stepGLoad true Go.Vw.tt Go.Vw.stt rfl rfl rfl Go.Vw.sc rfl rfl rfl rfl rfl rfl rfl rfl rfl rfl
  | exact Go.Vw.stepGBuild true Go.Vw.tt Go.Vw.stt rfl rfl rfl Go.Vw.sc rfl rfl rfl
  | exact Go.Vw.stepGApp Go.Vw.tt rfl rfl rfl rfl rfl rfl rfl rfl rfl rfl rfl rfl rfl rfl Go.Vw.sc rfl
  | exact Go.Vw.stepGAlloc Go.Vw.tt rfl rfl rfl rfl rfl rfl rfl rfl rfl
  | exact Go.Vw.stepGQ false Go.Vw.tt Go.Vw.stt rfl rfl rfl Go.Vw.sc rfl rfl rfl rfl
  | fail) : awpG kx al c s0 m X all ops rest Q s := h k
theorem awp_regG (id n c kx al : Nat) {ops : List Oper} (h : awpG kx al c (s.kills [kx, al]) 0 X ops.toArray (ops.take n) (ops.drop n) Q (s.kills [kx, al])) (hm : X.P.follows .mixedOrders = true) (hok : ordG ops.toArray n = true) (hne : Nat.beq al kx = false) (hK1 : X.K.contains kx = false) (hK2 : X.K.contains al = false) (hdf : s.dfs = []) : awp X (.region id ops.toArray true) Q s := by
  obtain ⟨s1, h1, h2⟩ := h
  exact awp_region_list hm n c kx al (fun q => by subst q; rw [Nat.beq_refl] at hne; cases hne) hok hK1 hK2 hdf h1 h2
end
end Go.Vw

/-
  The law on growing. Conditions: none.
-/
set_option maxHeartbeats 8000000
namespace Go.Proofs.YtfnonogemgnlhaaDoor
open Go.Vw
attribute [local irreducible] awp awpL awpR

theorem law09_FormulaGrows (s1 : List UInt8) (e1 : List Nd) (s2 : List UInt8) (e2 : List Nd) (op : Int) (hs1 : s1.length ≤ maxLen) (hl1 : e1.length ≤ maxLen) (hs2 : s2.length ≤ maxLen) (hl2 : e2.length ≤ maxLen) (ho : -9223372036854775808 ≤ op) (ho' : op < 9223372036854775808) : Ret Tryd.prog 9 [fmD s1 e1, fmD s2 e2, .int .i64 op] (· = .bool true) := by
  have aw := law09_awake
  have l1 := law09_light s1 e1 hs1 hl1
  have l2 := law09_light s2 e2 hs2 hl2
  by_cases c1 : lightF s1 e1 = true
  · have n1 := lightF_len c1
    rw [c1] at l1
    by_cases c2 : lightF s2 e2 = true
    · have n2 := lightF_len c2
      rw [c2] at l2
      have v1 := ref_Valid s1 e1 (by omega)
      have v2 := ref_Valid s2 e2 (by omega)
      by_cases c3 : vld s1 e1 = true
      · rw [c3] at v1
        by_cases c4 : vld s2 e2 = true
        · rw [c4] at v2
          obtain ⟨i1, b1, m1⟩ := vld_of c3
          obtain ⟨i2, b2, m2⟩ := vld_of c4
          have md := law09_Mod op 5 ho ho' (by decide) (by decide)
          have r1 := Int.emod_nonneg op (show (5 : Int) ≠ 0 by decide)
          have r2 := Int.emod_lt_of_pos op (show (0 : Int) < 5 by decide)
          generalize op % 5 = z at *
          have hb := vld_mk i1 (built_bi (op := 5 + z) (by omega) (by omega) b1 b2)
          have v3 := formula_Valid s1 ((5 + z, [], (0 : Int)) :: (e1 ++ e2)) (by simp only [List.length_cons, List.length_append]; omega)
          rw [hb] at v3
          refine ret_of_awp tab Tryd.func9 rfl rfl (Nat.le_of_ble_eq_true rfl) (fun w0 F0 => ?_)
          repeat' (first | refine stopA 4 tt ?_ | refine wG ?_ | refine wC l1 ?_ | refine wC l2 ?_ | refine wC v1 ?_ | refine wC v2 ?_ | refine wC md ?_ | refine rgK 4 13 [7] ?_ | refine rg 5 8 ?_ | refine wR ?_ | refine wS ?_ ?_ <;> intro _ | refine finG ?_)
          refine stopOut ?_
          refine awp_seq ?_
          refine awp_regG 4 13 12 34 7 ?_ mixed (by kernel_rfl) rfl rfl rfl rfl
          (repeat' (show awpG _ _ _ _ _ _ _ _ _ _ _; first | refine goG ?_ | refine stepGLit (en := ndC) (z := nd0) (l := [(5 + z, [], (0 : Int))]) tt rfl rfl rfl rfl rfl rfl (LeR.cons rfl leL LeR.nil) rfl ?_))
          repeat' (first | refine stopA 5 tt ?_ | refine wG ?_ | refine rgK 4 13 [7] ?_ | refine rg 5 8 ?_ | refine wR ?_ | refine wS ?_ ?_ <;> intro _ | refine finG ?_)
          refine stopOut ?_
          refine awp_rename [(7, .ptr 7 0)] [(7, .box fmT [.d (.str s1), .own 34 0 ((5 + z, [], (0 : Int)) :: (e1 ++ e2)).length ndT 3]), (34, .data ndT 3 ndC nd0 ((5 + z, [], (0 : Int)) :: (e1 ++ e2)))] [] ⟨rfl, rfl⟩ ⟨rfl, rfl, trivial⟩ ?_
          refine awp_frz 34 rfl ?_
          refine awp_rebox 7 [.str s1, ndsD ((5 + z, [], (0 : Int)) :: (e1 ++ e2))] rfl rfl (LeL.cons (LeD.refl _) (LeL.cons (LeD.cutAll rfl) LeL.nil)) ?_
          repeat' (first | refine wG ?_ | refine wC aw ?_ | refine wC v3 ?_ | refine rgK 4 13 [7] ?_ | refine rg 5 8 ?_ | refine wR ?_ | refine wS ?_ ?_ <;> intro _ | refine finG ?_)
          refine congrArg D.bool ?_
          generalize (((5 + z, [], (0 : Int)) :: (e1 ++ e2) : List Nd)).length = N
          rw [beq_iff_eq]
          exact decide_eq_decide.2 (by omega)
        · have c4 : vld s2 e2 = false := by simpa using c4
          rw [c4] at v2
          refine ret_of_awp tab Tryd.func9 rfl rfl (Nat.le_of_ble_eq_true rfl) (fun w0 F0 => ?_)
          repeat' (first | refine wG ?_ | refine wC l1 ?_ | refine wC l2 ?_ | refine wC v1 ?_ | refine wC v2 ?_ | refine wC aw ?_ | refine rgK 4 13 [7] ?_ | refine rg 5 8 ?_ | refine wR ?_ | refine wS ?_ ?_ <;> intro _ | refine finG ?_)
          all_goals rfl
      · have c3 : vld s1 e1 = false := by simpa using c3
        rw [c3] at v1
        refine ret_of_awp tab Tryd.func9 rfl rfl (Nat.le_of_ble_eq_true rfl) (fun w0 F0 => ?_)
        repeat' (first | refine wG ?_ | refine wC l1 ?_ | refine wC l2 ?_ | refine wC v1 ?_ | refine wC aw ?_ | refine rgK 4 13 [7] ?_ | refine rg 5 8 ?_ | refine wR ?_ | refine wS ?_ ?_ <;> intro _ | refine finG ?_)
        all_goals rfl
    · have c2 : lightF s2 e2 = false := by simpa using c2
      rw [c2] at l2
      refine ret_of_awp tab Tryd.func9 rfl rfl (Nat.le_of_ble_eq_true rfl) (fun w0 F0 => ?_)
      repeat' (first | refine wG ?_ | refine wC l1 ?_ | refine wC l2 ?_ | refine wC aw ?_ | refine rgK 4 13 [7] ?_ | refine rg 5 8 ?_ | refine wR ?_ | refine wS ?_ ?_ <;> intro _ | refine finG ?_)
      all_goals rfl
  · have c1 : lightF s1 e1 = false := by simpa using c1
    rw [c1] at l1
    refine ret_of_awp tab Tryd.func9 rfl rfl (Nat.le_of_ble_eq_true rfl) (fun w0 F0 => ?_)
    repeat' (first | refine wG ?_ | refine wC l1 ?_ | refine wC aw ?_ | refine rgK 4 13 [7] ?_ | refine rg 5 8 ?_ | refine wR ?_ | refine wS ?_ ?_ <;> intro _ | refine finG ?_)
    all_goals rfl
end Go.Proofs.YtfnonogemgnlhaaDoor
