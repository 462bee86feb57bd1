/-
  Contracts of functions of the program, and the layer that they are walked with: G26 G27 G28 G21 G22 TmL G29 TmN G32 TmO G33 G34 G30 G35 G36. Conditions: as each says.
-/
import Derived.Test.YtjooknpgcjicbaaA09
set_option linter.unnecessarySimpa false
/-
  The reference's list of an expression: operations. Conditions: as each says.
-/
set_option linter.unusedVariables false
set_option linter.unusedSimpArgs false
set_option maxHeartbeats 8000000
namespace Go.Proofs.Ytjooknpgcjicbaa
open Go.Vw
attribute [local irreducible] awp awpL awpR

theorem ls_no2 (e : List Nd) (p : Nat) (al : List Fc) (op : Int) (hn : e.getD p nd0 = (op, ([] : List UInt8), (0 : Int))) (hp : p < e.length) (he : e.length ≤ 1000) (h5 : 5 ≤ op ∧ op ≤ 9) (x y : List Nat) (m : Int) (A : Ret Try.prog 36 [ndsD e, .int .i64 ((p : Int) + 1), fsD al] (· = .tup [tsD x, .bool true])) (en : Ret Try.prog 49 [ndsD e, .int .i64 ((p : Int) + 1)] (· = .int .i64 m)) (B : Ret Try.prog 36 [ndsD e, .int .i64 m, fsD al] (· = .tup [tsD y, .bool false])) : Ret Try.prog 36 [ndsD e, .int .i64 p, fsD al] (· = .tup [tsD [], .bool false]) := by
  have ar := ref_Arity op
  rw [show arity op = 2 by unfold arity; rw [if_neg (by omega), if_neg (by omega), if_pos (by omega)]] at ar
  refine ret_of_awp tab Try.func36 rfl rfl (Nat.le_of_ble_eq_true rfl) (fun w0 F0 => ?_)
  repeat' (first | refine stopA 2 tt ?_ | refine wG ?_ | refine wR ?_ | refine wS ?_ ?_ <;> intro _ | refine finG ?_)
  refine stopOut ?_
  refine awp_slots [(0, .d (ndsD e)), (1, .d (.int .i64 p)), (2, .d (fsD al)), (8, .ptr 8 0)] [(8, .box ndT [.d (.int .i64 op), .d (.str []), .d (.int .i64 0)])] ⟨rfl, rfl, rfl, rfl, rfl⟩ ⟨bxEq hn, trivial⟩ ?_
  repeat' (first | refine wC A ?_ | refine stopA 21 tt ?_ | refine wG ?_ | refine wC ar ?_ | refine wC en ?_ | refine wR ?_ | refine wS ?_ ?_ <;> intro _ | refine finG ?_)
  refine stopOut ?_
  repeat' (first | refine wC B ?_ | refine wG ?_ | refine wC en ?_ | refine wR ?_ | refine wS ?_ ?_ <;> intro _ | refine finTG ?_)
  all_goals exact leT
theorem ls_bi (e : List Nd) (p : Nat) (al : List Fc) (op : Int) (hn : e.getD p nd0 = (op, ([] : List UInt8), (0 : Int))) (hp : p < e.length) (he : e.length ≤ 1000) (h5 : 5 ≤ op ∧ op ≤ 9) (x y : List Nat) (ox : TmOk 64 x) (oy : TmOk 64 y) (m : Int) (A : Ret Try.prog 36 [ndsD e, .int .i64 ((p : Int) + 1), fsD al] (· = .tup [tsD x, .bool true])) (en : Ret Try.prog 49 [ndsD e, .int .i64 ((p : Int) + 1)] (· = .int .i64 m)) (B : Ret Try.prog 36 [ndsD e, .int .i64 m, fsD al] (· = .tup [tsD y, .bool true])) : Ret Try.prog 36 [ndsD e, .int .i64 p, fsD al] (· = .tup [tsD (opM op x y), .bool (fitsM (opM op x y))]) := by
  have ar := ref_Arity op
  rw [show arity op = 2 by unfold arity; rw [if_neg (by omega), if_neg (by omega), if_pos (by omega)]] at ar
  have lx := fitsM_len ox.fit
  have ly := fitsM_len oy.fit
  have c5 := ref10_plus x y (by omega) (by omega)
  have c6 := ref10_minus x y (by omega) (by omega)
  have c7 := ref10_cross x y (by omega) (by omega) ox.bd oy.bd
  have c8 := ref10_star x y (by omega) (by omega) ox.bd oy.bd
  have c9 := ref10_nest x y (by omega) (by omega) ox.bd oy.bd
  have ft := ref10_fits (opM op x y) (by
    have h1 := (plusM_le x y).2
    have h2 := minusM_le x y
    have h3 := crossM_le x y
    have h4 := starM_le (a := x) (b := y) (by omega) (by omega)
    have h5 := (plusM_le x (crossM [orM x] y)).2
    have h6 := crossM_le [orM x] y
    have := Nat.mul_le_mul lx ly
    simp only [List.length_singleton] at h6
    unfold opM nestM
    (repeat' split) <;> omega) (ox.bd.op oy.bd)
  have o5 : opM 5 x y = plusM x y := rfl
  have o6 : opM 6 x y = minusM x y := rfl
  have o7 : opM 7 x y = crossM x y := rfl
  have o8 : opM 8 x y = starM x y := rfl
  have o9 : opM 9 x y = nestM x y := rfl
  rw [← o5] at c5
  rw [← o6] at c6
  rw [← o7] at c7
  rw [← o8] at c8
  rw [← o9] at c9
  clear o5 o6 o7 o8 o9 ox oy lx ly
  refine ret_of_awp tab Try.func36 rfl rfl (Nat.le_of_ble_eq_true rfl) (fun w0 F0 => ?_)
  repeat' (first | refine stopA 2 tt ?_ | refine wG ?_ | refine wR ?_ | refine wS ?_ ?_ <;> intro _ | refine finG ?_)
  refine stopOut ?_
  refine awp_slots [(0, .d (ndsD e)), (1, .d (.int .i64 p)), (2, .d (fsD al)), (8, .ptr 8 0)] [(8, .box ndT [.d (.int .i64 op), .d (.str []), .d (.int .i64 0)])] ⟨rfl, rfl, rfl, rfl, rfl⟩ ⟨bxEq hn, trivial⟩ ?_
  repeat' (first | refine wC A ?_ | refine stopA 21 tt ?_ | refine wG ?_ | refine wC ar ?_ | refine wC en ?_ | refine wR ?_ | refine wS ?_ ?_ <;> intro _ | refine finG ?_)
  refine stopOut ?_
  have h : op = 5 ∨ op = 6 ∨ op = 7 ∨ op = 8 ∨ op = 9 := by omega
  rcases h with h | h | h | h | h <;> subst h
  · generalize opM 5 x y = z at *
    generalize fitsM z = F at *
    repeat' (first | refine wC B ?_ | refine wG ?_ | refine wC en ?_ | refine wC c5 ?_ | refine wC ft ?_ | refine wR ?_ | refine wS ?_ ?_ <;> intro _ | refine finTG ?_)
    all_goals exact leT
  · generalize opM 6 x y = z at *
    generalize fitsM z = F at *
    repeat' (first | refine wC B ?_ | refine wG ?_ | refine wC en ?_ | refine wC c6 ?_ | refine wC ft ?_ | refine wR ?_ | refine wS ?_ ?_ <;> intro _ | refine finTG ?_)
    all_goals exact leT
  · generalize opM 7 x y = z at *
    generalize fitsM z = F at *
    repeat' (first | refine wC B ?_ | refine wG ?_ | refine wC en ?_ | refine wC c7 ?_ | refine wC ft ?_ | refine wR ?_ | refine wS ?_ ?_ <;> intro _ | refine finTG ?_)
    all_goals exact leT
  · generalize opM 8 x y = z at *
    generalize fitsM z = F at *
    repeat' (first | refine wC B ?_ | refine wG ?_ | refine wC en ?_ | refine wC c8 ?_ | refine wC ft ?_ | refine wR ?_ | refine wS ?_ ?_ <;> intro _ | refine finTG ?_)
    all_goals exact leT
  · generalize opM 9 x y = z at *
    generalize fitsM z = F at *
    repeat' (first | refine wC B ?_ | refine wG ?_ | refine wC en ?_ | refine wC c9 ?_ | refine wC ft ?_ | refine wR ?_ | refine wS ?_ ?_ <;> intro _ | refine finTG ?_)
    all_goals exact leT
theorem at_pre (pre l : List Nd) (n : Nd) : (pre ++ (n :: l)).getD pre.length nd0 = n := by
  rw [List.getD_eq_getElem?_getD, List.getElem?_append_right (Nat.le_refl _), Nat.sub_self]; rfl
theorem bd64 {n : Nat} (h : n ≤ 64) {l : List Nat} (o : TmOk n l) : TmOk 64 l := ⟨o.fit, o.nd, fun t ht => Nat.lt_of_lt_of_le (o.bd t ht) (Nat.pow_le_pow_right (by decide) h)⟩
theorem ref10_list (al : List Fc) (hal : al.length ≤ 64) : ∀ (T : Ft), T.ok → facsIn al T → ∀ (pre suf : List Nd), (pre ++ (T.flat ++ suf)).length ≤ 1000 → LsC (pre ++ (T.flat ++ suf)) pre.length al T
  | .leaf n, hok, hf, pre, suf, hl => by
    refine ls_leaf _ _ al n (at_pre pre suf n) ?_ hl hok hf hal
    simp [Ft.flat]
  | .un k a, hok, hf, pre, suf, hl => by
    have e0 : pre ++ ((Ft.un k a).flat ++ suf) = (pre ++ [((10 : Int), ([] : List UInt8), k)]) ++ (a.flat ++ suf) := by simp [Ft.flat]
    have hn := at_pre pre (a.flat ++ suf) ((10 : Int), ([] : List UInt8), k)
    obtain ⟨x, hx, A⟩ := ref10_list al hal a hok.2.2 hf (pre ++ [((10 : Int), ([] : List UInt8), k)]) suf (by rw [← e0]; exact hl)
    have hp : pre.length < (pre ++ ((Ft.un k a).flat ++ suf)).length := by simp [Ft.flat]
    have e1 : pre ++ ((Ft.un k a).flat ++ suf) = pre ++ (((10 : Int), ([] : List UInt8), k) :: (a.flat ++ suf)) := rfl
    rw [← e1] at hn
    rw [← e0, List.length_append, List.length_singleton] at A
    have A : Ret Try.prog 36 [ndsD (pre ++ ((Ft.un k a).flat ++ suf)), .int .i64 ((pre.length : Int) + 1), fsD al] (· = .tup [tsD x, .bool (exM al a).isSome]) := A
    generalize pre ++ ((Ft.un k a).flat ++ suf) = e at *
    cases ha : exM al a with
    | none =>
      rw [ha] at A
      refine ⟨[], fun l h => (by simp only [exM, ha] at h; cases h), ?_⟩
      rw [show (exM al (.un k a)).isSome = false by simp only [exM, ha]; rfl]
      exact ls_no e pre.length al _ hn hp hl ⟨by show (5 : Int) ≤ 10; decide, by show (10 : Int) ≤ 10; decide⟩ x A
    | some l =>
      rw [ha] at A
      have := hx l ha
      subst this
      have ox := bd64 hal (exM_ok hal a hok.2.2 hf x ha)
      obtain ⟨kk, rfl⟩ : ∃ kk : Nat, k = (kk : Int) := ⟨k.toNat, by have := hok.1; omega⟩
      have h1 := hok.1
      have h2 := hok.2.1
      have r := ls_un e pre.length al kk hn hp hl ⟨by omega, by omega⟩ x ox A
      have e5 : exM al (.un (kk : Int) a) = fitO (powM x (kk - 1)) := by simp only [exM, ha, Int.toNat_natCast]
      refine ⟨if fitsM (powM x (kk - 1)) = true then powM x (kk - 1) else [], fun l h => ?_, ?_⟩
      rotate_left
      · rw [e5, show (fitO (powM x (kk - 1))).isSome = fitsM (powM x (kk - 1)) by unfold fitO; split <;> simp_all]
        exact r
      · rw [e5] at h
        obtain ⟨q1, q2⟩ := fitO_some h
        rw [if_pos q1, q2]
  | .bi op a b, hok, hf, pre, suf, hl => by
    have h5 := hok.1
    have h9 := hok.2.1
    have e0 : pre ++ ((Ft.bi op a b).flat ++ suf) = (pre ++ [(op, ([] : List UInt8), (0 : Int))]) ++ (a.flat ++ (b.flat ++ suf)) := by simp [Ft.flat]
    have e2 : pre ++ ((Ft.bi op a b).flat ++ suf) = (pre ++ ((op, ([] : List UInt8), (0 : Int)) :: a.flat)) ++ (b.flat ++ suf) := by simp [Ft.flat]
    have hn := at_pre pre (a.flat ++ (b.flat ++ suf)) (op, ([] : List UInt8), (0 : Int))
    have e1 : pre ++ ((Ft.bi op a b).flat ++ suf) = pre ++ ((op, ([] : List UInt8), (0 : Int)) :: (a.flat ++ (b.flat ++ suf))) := by simp [Ft.flat]
    obtain ⟨x, hx, A⟩ := ref10_list al hal a hok.2.2.1 hf.1 (pre ++ [(op, ([] : List UInt8), (0 : Int))]) (b.flat ++ suf) (by rw [← e0]; exact hl)
    obtain ⟨y, hy, B⟩ := ref10_list al hal b hok.2.2.2 hf.2 (pre ++ ((op, ([] : List UInt8), (0 : Int)) :: a.flat)) suf (by rw [← e2]; exact hl)
    have hp : pre.length < (pre ++ ((Ft.bi op a b).flat ++ suf)).length := by simp [Ft.flat]
    have en := ref_End (pre ++ ((Ft.bi op a b).flat ++ suf)) (pre.length + 1) (by simp [Ft.flat]) hl
    have ev : endI (pre ++ ((Ft.bi op a b).flat ++ suf)) (pre.length + 1) 1 = ((pre.length + 1 + a.flat.length : Nat) : Int) := by
      have := endI_at hok.2.2.1 (pre ++ [(op, ([] : List UInt8), (0 : Int))]) (b.flat ++ suf)
      rw [← e0, List.length_append, List.length_singleton] at this
      rw [this]; omega
    rw [ev] at en
    rw [← e1] at hn
    rw [← e0, List.length_append, List.length_singleton] at A
    rw [← e2, List.length_append, List.length_cons, show pre.length + (a.flat.length + 1) = pre.length + 1 + a.flat.length by omega] at B
    have A : Ret Try.prog 36 [ndsD (pre ++ ((Ft.bi op a b).flat ++ suf)), .int .i64 ((pre.length : Int) + 1), fsD al] (· = .tup [tsD x, .bool (exM al a).isSome]) := A
    have en : Ret Try.prog 49 [ndsD (pre ++ ((Ft.bi op a b).flat ++ suf)), .int .i64 ((pre.length : Int) + 1)] (· = .int .i64 ((pre.length + 1 + a.flat.length : Nat) : Int)) := en
    clear ev e0 e1 e2
    generalize pre ++ ((Ft.bi op a b).flat ++ suf) = e at *
    generalize ((pre.length + 1 + a.flat.length : Nat) : Int) = m at *
    cases ha : exM al a with
    | none =>
      rw [ha] at A
      refine ⟨[], fun l h => (by simp only [exM, ha] at h; cases h), ?_⟩
      rw [show (exM al (.bi op a b)).isSome = false by simp only [exM, ha]; rfl]
      exact ls_no e pre.length al _ hn hp hl ⟨h5, by show op ≤ 10; omega⟩ x A
    | some l =>
      rw [ha] at A
      have := hx l ha
      subst this
      cases hb : exM al b with
      | none =>
        rw [hb] at B
        refine ⟨[], fun l h => (by simp only [exM, ha, hb] at h; cases h), ?_⟩
        rw [show (exM al (.bi op a b)).isSome = false by simp only [exM, ha, hb]; rfl]
        exact ls_no2 e pre.length al op hn hp hl ⟨h5, h9⟩ x y m A en B
      | some l2 =>
        rw [hb] at B
        have := hy l2 hb
        subst this
        have ox := bd64 hal (exM_ok hal a hok.2.2.1 hf.1 x ha)
        have oy := bd64 hal (exM_ok hal b hok.2.2.2 hf.2 y hb)
        have r := ls_bi e pre.length al op hn hp hl ⟨h5, h9⟩ x y ox oy m A en B
        have e5 : exM al (.bi op a b) = fitO (opM op x y) := by simp only [exM, ha, hb]
        refine ⟨opM op x y, fun l h => ?_, ?_⟩
        rotate_left
        · rw [e5, show (fitO (opM op x y)).isSome = fitsM (opM op x y) by unfold fitO; split <;> simp_all]
          exact r
        · rw [e5] at h
          exact (fitO_some h).2.symm
end Go.Proofs.Ytjooknpgcjicbaa

/-
  The reference's steps. Conditions: as each says.
-/
set_option maxHeartbeats 8000000
namespace Go.Proofs.Ytjooknpgcjicbaa
open Go.Vw
attribute [local irreducible] awp awpL awpR

theorem st_one0 (e : List Nd) (p : Nat) (al : List Fc) (n : Nd) (hn : e.getD p nd0 = n) (hp : p < e.length) (he : e.length ≤ 1000) (h5 : n.1 ≠ 5 ∧ n.1 ≠ 6) (x : List Nat) (A : Ret Try.prog 36 [ndsD e, .int .i64 p, fsD al] (· = .tup [tsD x, .bool false])) : Ret Try.prog 35 [ndsD e, .int .i64 p, fsD al] (· = .tup [tsD [], .bool false]) := by
  obtain ⟨op, s, k⟩ := n
  simp only at h5
  obtain ⟨h5, h6⟩ := h5
  refine ret_of_awp tab Try.func35 rfl rfl (Nat.le_of_ble_eq_true rfl) (fun w0 F0 => ?_)
  repeat' (first | refine stopA 2 tt ?_ | refine wG ?_ | refine wR ?_ | refine wS ?_ ?_ <;> intro _ | refine finG ?_)
  refine stopOut ?_
  refine awp_slots [(0, .d (ndsD e)), (1, .d (.int .i64 p)), (2, .d (fsD al)), (8, .ptr 8 0)] [(8, .box ndT [.d (.int .i64 op), .d (.str s), .d (.int .i64 k)])] ⟨rfl, rfl, rfl, rfl, rfl⟩ ⟨bxEq hn, trivial⟩ ?_
  repeat' (first | refine wG ?_ | refine wC A ?_ | refine wR ?_ | refine wS ?_ ?_ <;> intro _ | refine finTG ?_)
  all_goals exact leT
theorem st_one (e : List Nd) (p : Nat) (al : List Fc) (n : Nd) (hn : e.getD p nd0 = n) (hp : p < e.length) (he : e.length ≤ 1000) (h5 : n.1 ≠ 5 ∧ n.1 ≠ 6) (x : List Nat) (ox : TmOk 64 x) (A : Ret Try.prog 36 [ndsD e, .int .i64 p, fsD al] (· = .tup [tsD x, .bool true])) : Ret Try.prog 35 [ndsD e, .int .i64 p, fsD al] (· = if n.1 = 4 then .tup [tsD (minusM [0] [0]), .bool true] else .tup [tsD (plusM [0] x), .bool (fitsM (plusM [0] x))]) := by
  have lx := fitsM_len ox.fit
  have c5 := ref10_plus [0] x (by simp) (by omega)
  have c6 := ref10_minus [0] [0] (by simp) (by simp)
  have ft := ref10_fits (plusM [0] x) (by have := (plusM_le [0] x).2; simp at this; omega) ((one_ok 64).bd.plus ox.bd)
  generalize plusM [0] x = z at *
  generalize minusM [0] [0] = z2 at *
  generalize fitsM z = F at *
  clear ox
  have hn1 : (e.getD p nd0).1 = n.1 := by rw [hn]
  obtain ⟨op, s, k⟩ := n
  simp only at h5 hn1 ⊢
  obtain ⟨h5, h6⟩ := h5
  by_cases h4 : op = 4
  · subst h4
    rw [if_pos rfl]
    refine ret_of_awp tab Try.func35 rfl rfl (Nat.le_of_ble_eq_true rfl) (fun w0 F0 => ?_)
    repeat' (first | refine stopA 2 tt ?_ | refine wG ?_ | refine wR ?_ | refine wS ?_ ?_ <;> intro _ | refine finG ?_)
    refine stopOut ?_
    refine awp_slots [(0, .d (ndsD e)), (1, .d (.int .i64 p)), (2, .d (fsD al)), (8, .ptr 8 0)] [(8, .box ndT [.d (.int .i64 4), .d (.str s), .d (.int .i64 k)])] ⟨rfl, rfl, rfl, rfl, rfl⟩ ⟨bxEq hn, trivial⟩ ?_
    repeat' (first | refine wG ?_ | refine wC A ?_ | refine wC c6 ?_ | refine wR ?_ | refine wS ?_ ?_ <;> intro _ | refine finTG ?_)
    all_goals exact leT
  · rw [if_neg h4]
    refine ret_of_awp tab Try.func35 rfl rfl (Nat.le_of_ble_eq_true rfl) (fun w0 F0 => ?_)
    repeat' (first | refine stopA 2 tt ?_ | refine wG ?_ | refine wR ?_ | refine wS ?_ ?_ <;> intro _ | refine finG ?_)
    refine stopOut ?_
    refine awp_slots [(0, .d (ndsD e)), (1, .d (.int .i64 p)), (2, .d (fsD al)), (8, .ptr 8 0)] [(8, .box ndT [.d (.int .i64 op), .d (.str s), .d (.int .i64 k)])] ⟨rfl, rfl, rfl, rfl, rfl⟩ ⟨bxEq hn, trivial⟩ ?_
    repeat' (first | refine wG ?_ | refine wC A ?_ | refine wC c5 ?_ | refine wC ft ?_ | refine wR ?_ | refine wS ?_ ?_ <;> intro _ | refine finTG ?_)
    all_goals exact leT
theorem st_two0 (e : List Nd) (p : Nat) (al : List Fc) (op : Int) (hn : e.getD p nd0 = (op, ([] : List UInt8), (0 : Int))) (hp : p < e.length) (he : e.length ≤ 1000) (h5 : op = 5 ∨ op = 6) (l : List Nat) (S : Ret Try.prog 35 [ndsD e, .int .i64 ((p : Int) + 1), fsD al] (· = .tup [tsD l, .bool false])) : Ret Try.prog 35 [ndsD e, .int .i64 p, fsD al] (· = .tup [tsD [], .bool false]) := by
  refine ret_of_awp tab Try.func35 rfl rfl (Nat.le_of_ble_eq_true rfl) (fun w0 F0 => ?_)
  repeat' (first | refine stopA 2 tt ?_ | refine wG ?_ | refine wR ?_ | refine wS ?_ ?_ <;> intro _ | refine finG ?_)
  refine stopOut ?_
  refine awp_slots [(0, .d (ndsD e)), (1, .d (.int .i64 p)), (2, .d (fsD al)), (8, .ptr 8 0)] [(8, .box ndT [.d (.int .i64 op), .d (.str []), .d (.int .i64 0)])] ⟨rfl, rfl, rfl, rfl, rfl⟩ ⟨bxEq hn, trivial⟩ ?_
  repeat' (first | refine wC S ?_ | refine wG ?_ | refine wR ?_ | refine wS ?_ ?_ <;> intro _ | refine finTG ?_)
  all_goals exact leT
theorem st_two1 (e : List Nd) (p : Nat) (al : List Fc) (op : Int) (hn : e.getD p nd0 = (op, ([] : List UInt8), (0 : Int))) (hp : p < e.length) (he : e.length ≤ 1000) (h5 : op = 5 ∨ op = 6) (l x : List Nat) (m : Nat) (S : Ret Try.prog 35 [ndsD e, .int .i64 ((p : Int) + 1), fsD al] (· = .tup [tsD l, .bool true])) (en : Ret Try.prog 49 [ndsD e, .int .i64 ((p : Int) + 1)] (· = .int .i64 m)) (B : Ret Try.prog 36 [ndsD e, .int .i64 m, fsD al] (· = .tup [tsD x, .bool false])) : Ret Try.prog 35 [ndsD e, .int .i64 p, fsD al] (· = .tup [tsD [], .bool false]) := by
  refine ret_of_awp tab Try.func35 rfl rfl (Nat.le_of_ble_eq_true rfl) (fun w0 F0 => ?_)
  repeat' (first | refine stopA 2 tt ?_ | refine wG ?_ | refine wR ?_ | refine wS ?_ ?_ <;> intro _ | refine finG ?_)
  refine stopOut ?_
  refine awp_slots [(0, .d (ndsD e)), (1, .d (.int .i64 p)), (2, .d (fsD al)), (8, .ptr 8 0)] [(8, .box ndT [.d (.int .i64 op), .d (.str []), .d (.int .i64 0)])] ⟨rfl, rfl, rfl, rfl, rfl⟩ ⟨bxEq hn, trivial⟩ ?_
  repeat' (first | refine wC S ?_ | refine wG ?_ | refine wC en ?_ | refine wC B ?_ | refine wR ?_ | refine wS ?_ ?_ <;> intro _ | refine finTG ?_)
  all_goals exact leT
theorem st_two (e : List Nd) (p : Nat) (al : List Fc) (op : Int) (hn : e.getD p nd0 = (op, ([] : List UInt8), (0 : Int))) (hp : p < e.length) (he : e.length ≤ 1000) (h5 : op = 5 ∨ op = 6) (l x : List Nat) (m : Nat) (hm : m < e.length) (ol : TmOk 64 l) (ox : TmOk 64 x) (S : Ret Try.prog 35 [ndsD e, .int .i64 ((p : Int) + 1), fsD al] (· = .tup [tsD l, .bool true])) (en : Ret Try.prog 49 [ndsD e, .int .i64 ((p : Int) + 1)] (· = .int .i64 m)) (B : Ret Try.prog 36 [ndsD e, .int .i64 m, fsD al] (· = .tup [tsD x, .bool true])) (b : List Nat) (hb : b = if (e.getD m nd0).1 = 4 then [0] else x) : Ret Try.prog 35 [ndsD e, .int .i64 p, fsD al] (· = if (decide ((e.getD m nd0).1 = 4) != decide (op = 5)) = true then .tup [tsD (plusM l b), .bool (fitsM (plusM l b))] else .tup [tsD (minusM l b), .bool true]) := by
  have lx := fitsM_len ox.fit
  have ll := fitsM_len ol.fit
  have ob : TmOk 64 b := by
    rw [hb]; split
    · exact one_ok 64
    · exact ox
  have lb := fitsM_len ob.fit
  have c5 := ref10_plus l b (by omega) (by omega)
  have c6 := ref10_minus l b (by omega) (by omega)
  have ft := ref10_fits (plusM l b) (by have := (plusM_le l b).2; omega) (ol.bd.plus ob.bd)
  generalize plusM l b = z at *
  generalize minusM l b = z2 at *
  generalize fitsM z = F at *
  clear ob ol ox
  by_cases h4 : (e.getD m nd0).1 = 4
  · rw [if_pos h4] at hb
    subst hb
    rw [decide_eq_true h4]
    rcases h5 with rfl | rfl
    · rw [if_neg (by decide)]
      refine ret_of_awp tab Try.func35 rfl rfl (Nat.le_of_ble_eq_true rfl) (fun w0 F0 => ?_)
      repeat' (first | refine stopA 2 tt ?_ | refine wG ?_ | refine wR ?_ | refine wS ?_ ?_ <;> intro _ | refine finG ?_)
      refine stopOut ?_
      refine awp_slots [(0, .d (ndsD e)), (1, .d (.int .i64 p)), (2, .d (fsD al)), (8, .ptr 8 0)] [(8, .box ndT [.d (.int .i64 5), .d (.str []), .d (.int .i64 0)])] ⟨rfl, rfl, rfl, rfl, rfl⟩ ⟨bxEq hn, trivial⟩ ?_
      repeat' (first | refine wC S ?_ | refine wG ?_ | refine wC en ?_ | refine wC B ?_ | refine wC c6 ?_ | refine wR ?_ | refine wS ?_ ?_ <;> intro _ | refine finTG ?_)
      all_goals exact leT
    · rw [if_pos (by decide)]
      refine ret_of_awp tab Try.func35 rfl rfl (Nat.le_of_ble_eq_true rfl) (fun w0 F0 => ?_)
      repeat' (first | refine stopA 2 tt ?_ | refine wG ?_ | refine wR ?_ | refine wS ?_ ?_ <;> intro _ | refine finG ?_)
      refine stopOut ?_
      refine awp_slots [(0, .d (ndsD e)), (1, .d (.int .i64 p)), (2, .d (fsD al)), (8, .ptr 8 0)] [(8, .box ndT [.d (.int .i64 6), .d (.str []), .d (.int .i64 0)])] ⟨rfl, rfl, rfl, rfl, rfl⟩ ⟨bxEq hn, trivial⟩ ?_
      repeat' (first | refine wC S ?_ | refine wG ?_ | refine wC en ?_ | refine wC B ?_ | refine wC c5 ?_ | refine wC ft ?_ | refine wR ?_ | refine wS ?_ ?_ <;> intro _ | refine finTG ?_)
      all_goals exact leT
  · rw [if_neg h4] at hb
    subst hb
    rw [decide_eq_false h4]
    rcases h5 with rfl | rfl
    · rw [if_pos (by decide)]
      refine ret_of_awp tab Try.func35 rfl rfl (Nat.le_of_ble_eq_true rfl) (fun w0 F0 => ?_)
      repeat' (first | refine stopA 2 tt ?_ | refine wG ?_ | refine wR ?_ | refine wS ?_ ?_ <;> intro _ | refine finG ?_)
      refine stopOut ?_
      refine awp_slots [(0, .d (ndsD e)), (1, .d (.int .i64 p)), (2, .d (fsD al)), (8, .ptr 8 0)] [(8, .box ndT [.d (.int .i64 5), .d (.str []), .d (.int .i64 0)])] ⟨rfl, rfl, rfl, rfl, rfl⟩ ⟨bxEq hn, trivial⟩ ?_
      repeat' (first | refine wC S ?_ | refine wG ?_ | refine wC en ?_ | refine wC B ?_ | refine wC c5 ?_ | refine wC ft ?_ | refine wR ?_ | refine wS ?_ ?_ <;> intro _ | refine finTG ?_)
      all_goals exact leT
    · rw [if_neg (by decide)]
      refine ret_of_awp tab Try.func35 rfl rfl (Nat.le_of_ble_eq_true rfl) (fun w0 F0 => ?_)
      repeat' (first | refine stopA 2 tt ?_ | refine wG ?_ | refine wR ?_ | refine wS ?_ ?_ <;> intro _ | refine finG ?_)
      refine stopOut ?_
      refine awp_slots [(0, .d (ndsD e)), (1, .d (.int .i64 p)), (2, .d (fsD al)), (8, .ptr 8 0)] [(8, .box ndT [.d (.int .i64 6), .d (.str []), .d (.int .i64 0)])] ⟨rfl, rfl, rfl, rfl, rfl⟩ ⟨bxEq hn, trivial⟩ ?_
      repeat' (first | refine wC S ?_ | refine wG ?_ | refine wC en ?_ | refine wC B ?_ | refine wC c6 ?_ | refine wR ?_ | refine wS ?_ ?_ <;> intro _ | refine finTG ?_)
      all_goals exact leT
end Go.Proofs.Ytjooknpgcjicbaa

/-
  The reference's steps of a right side; what it says of one that breaks a limit. Conditions: as each says.
-/
set_option maxHeartbeats 8000000
namespace Go.Proofs.Ytjooknpgcjicbaa
open Go.Vw
attribute [local irreducible] awp awpL awpR

def SpC (e : List Nd) (p : Int) (al : List Fc) (T : Ft) : Prop := ∃ x, (∀ l, mdM al [0] T = some l → x = l) ∧ Ret Try.prog 35 [ndsD e, .int .i64 p, fsD al] (· = .tup [tsD x, .bool (mdM al [0] T).isSome])
theorem flat_head : ∀ (T : Ft), ∃ n tl, T.flat = n :: tl ∧ n.1 = T.op
  | .leaf n => ⟨n, [], rfl, rfl⟩
  | .un k a => ⟨(10, [], k), a.flat, rfl, rfl⟩
  | .bi op a b => ⟨(op, [], 0), a.flat ++ b.flat, rfl, rfl⟩
theorem sp_base {e : List Nd} {p : Nat} {al : List Fc} (hal : al.length ≤ 64) {T : Ft} (hok : T.ok) (hf : facsIn al T) (n : Nd) (hn : e.getD p nd0 = n) (h1 : n.1 = T.op) (hp : p < e.length) (he : e.length ≤ 1000) (h5 : T.op ≠ 5 ∧ T.op ≠ 6) (hm : mdM al [0] T = stpM al (some [0]) T true) (L : LsC e p al T) : SpC e p al T := by
  obtain ⟨x, hx, A⟩ := L
  unfold SpC
  rw [hm]
  cases ha : exM al T with
  | none =>
    rw [ha] at A
    have e0 : stpM al (some [0]) T true = none := by unfold stpM; rw [ha]
    rw [e0]
    exact ⟨[], fun l h => (by cases h), st_one0 e p al n hn hp he (by rw [h1]; exact h5) x A⟩
  | some l =>
    rw [ha] at A
    have := hx l ha
    subst this
    have ox := bd64 hal (exM_ok hal T hok hf x ha)
    have r := st_one e p al n hn hp he (by rw [h1]; exact h5) x ox A
    have e0 : stpM al (some [0]) T true = apM [0] x (decide (T.op = 4)) true := by unfold stpM; rw [ha]
    rw [e0]
    by_cases h4 : T.op = 4
    · rw [if_pos (by rw [h1]; exact h4)] at r
      have e1 : apM [0] x (decide (T.op = 4)) true = some (minusM [0] [0]) := by rw [decide_eq_true h4]; rfl
      rw [e1]
      exact ⟨minusM [0] [0], fun l h => (by cases h; rfl), r⟩
    · rw [if_neg (by rw [h1]; exact h4)] at r
      have e1 : apM [0] x (decide (T.op = 4)) true = if fitsM (plusM [0] x) then some (plusM [0] x) else none := by rw [decide_eq_false h4]; rfl
      rw [e1]
      refine ⟨plusM [0] x, fun l h => ?_, ?_⟩
      · split at h
        · cases h; rfl
        · cases h
      · rw [show (if fitsM (plusM [0] x) = true then some (plusM [0] x) else none).isSome = fitsM (plusM [0] x) by cases fitsM (plusM [0] x) <;> rfl]
        exact r
theorem ref10_steps (al : List Fc) (hal : al.length ≤ 64) (hnd : al.Nodup) : ∀ (T : Ft), T.ok → facsIn al T → ∀ (pre suf : List Nd), (pre ++ (T.flat ++ suf)).length ≤ 1000 → SpC (pre ++ (T.flat ++ suf)) pre.length al T
  | .leaf n, hok, hf, pre, suf, hl => by
    have L := ref10_list al hal (.leaf n) hok hf pre suf hl
    refine sp_base hal hok hf n (at_pre pre suf n) rfl (by simp [Ft.flat]) hl ?_ rfl L
    show n.1 ≠ 5 ∧ n.1 ≠ 6
    rcases hok with ⟨h, _⟩ | ⟨h, _⟩ | ⟨h, _⟩ <;> omega
  | .un k a, hok, hf, pre, suf, hl => by
    have L := ref10_list al hal (.un k a) hok hf pre suf hl
    exact sp_base hal hok hf _ (at_pre pre (a.flat ++ suf) ((10 : Int), ([] : List UInt8), k)) rfl (by simp [Ft.flat]) hl ⟨by show (10 : Int) ≠ 5; decide, by show (10 : Int) ≠ 6; decide⟩ rfl L
  | .bi op a b, hok, hf, pre, suf, hl => by
    have h5 := hok.1
    have h9 := hok.2.1
    have e1 : pre ++ ((Ft.bi op a b).flat ++ suf) = pre ++ ((op, ([] : List UInt8), (0 : Int)) :: (a.flat ++ (b.flat ++ suf))) := by simp [Ft.flat]
    have hn := at_pre pre (a.flat ++ (b.flat ++ suf)) (op, ([] : List UInt8), (0 : Int))
    rw [← e1] at hn
    have hp : pre.length < (pre ++ ((Ft.bi op a b).flat ++ suf)).length := by simp [Ft.flat]
    by_cases hop : op = 5 ∨ op = 6
    · have e0 : pre ++ ((Ft.bi op a b).flat ++ suf) = (pre ++ [(op, ([] : List UInt8), (0 : Int))]) ++ (a.flat ++ (b.flat ++ suf)) := by simp [Ft.flat]
      have e2 : pre ++ ((Ft.bi op a b).flat ++ suf) = (pre ++ ((op, ([] : List UInt8), (0 : Int)) :: a.flat)) ++ (b.flat ++ suf) := by simp [Ft.flat]
      obtain ⟨l, hl', S⟩ := ref10_steps al hal hnd a hok.2.2.1 hf.1 (pre ++ [(op, ([] : List UInt8), (0 : Int))]) (b.flat ++ suf) (by rw [← e0]; exact hl)
      obtain ⟨x, hx, B⟩ := ref10_list al hal b hok.2.2.2 hf.2 (pre ++ ((op, ([] : List UInt8), (0 : Int)) :: a.flat)) suf (by rw [← e2]; exact hl)
      have en := ref_End (pre ++ ((Ft.bi op a b).flat ++ suf)) (pre.length + 1) (by simp [Ft.flat]) hl
      have ev : endI (pre ++ ((Ft.bi op a b).flat ++ suf)) (pre.length + 1) 1 = ((pre.length + 1 + a.flat.length : Nat) : Int) := by
        have := endI_at hok.2.2.1 (pre ++ [(op, ([] : List UInt8), (0 : Int))]) (b.flat ++ suf)
        rw [← e0, List.length_append, List.length_singleton] at this
        rw [this]; omega
      rw [ev] at en
      obtain ⟨nb, tl, hb1, hb2⟩ := flat_head b
      have hq : (pre ++ ((Ft.bi op a b).flat ++ suf)).getD (pre.length + 1 + a.flat.length) nd0 = nb := by
        have := at_pre (pre ++ ((op, ([] : List UInt8), (0 : Int)) :: a.flat)) (tl ++ suf) nb
        rw [← List.cons_append, ← hb1, ← e2, List.length_append, List.length_cons] at this
        rw [show pre.length + 1 + a.flat.length = pre.length + (a.flat.length + 1) by omega]
        exact this
      have hm : pre.length + 1 + a.flat.length < (pre ++ ((Ft.bi op a b).flat ++ suf)).length := by
        rw [e2, hb1]; simp; omega
      rw [← e0, List.length_append, List.length_singleton] at S
      rw [← e2, List.length_append, List.length_cons, show pre.length + (a.flat.length + 1) = pre.length + 1 + a.flat.length by omega] at B
      have S : Ret Try.prog 35 [ndsD (pre ++ ((Ft.bi op a b).flat ++ suf)), .int .i64 ((pre.length : Int) + 1), fsD al] (· = .tup [tsD l, .bool (mdM al [0] a).isSome]) := S
      have en : Ret Try.prog 49 [ndsD (pre ++ ((Ft.bi op a b).flat ++ suf)), .int .i64 ((pre.length : Int) + 1)] (· = .int .i64 ((pre.length + 1 + a.flat.length : Nat) : Int)) := en
      unfold SpC
      have em : mdM al [0] (.bi op a b) = stpM al (mdM al [0] a) b (decide (op = 5)) := by
        show (if op = 5 ∨ op = 6 then _ else _) = _
        rw [if_pos hop]
      rw [em]
      clear ev e0 e1 e2 em
      generalize pre ++ ((Ft.bi op a b).flat ++ suf) = e at *
      generalize pre.length + 1 + a.flat.length = m at *
      cases ha : mdM al [0] a with
      | none =>
        rw [ha] at S
        exact ⟨[], fun l h => (by cases h), st_two0 e pre.length al op hn hp hl hop l S⟩
      | some l0 =>
        rw [ha] at S
        have := hl' l0 ha
        subst this
        cases hb : exM al b with
        | none =>
          rw [hb] at B
          have e0 : stpM al (some l) b (decide (op = 5)) = none := by unfold stpM; rw [hb]
          rw [e0]
          exact ⟨[], fun l h => (by cases h), st_two1 e pre.length al op hn hp hl hop l x m S en B⟩
        | some x0 =>
          rw [hb] at B
          have := hx x0 hb
          subst this
          have ol := bd64 hal (mdM_all hal hnd a hok.2.2.1 hf.1 l ha).1
          have ox := bd64 hal (exM_ok hal b hok.2.2.2 hf.2 x hb)
          have r := st_two e pre.length al op hn hp hl hop l x m hm ol ox S en B _ rfl
          rw [hq, hb2] at r
          have e0 : stpM al (some l) b (decide (op = 5)) = apM l x (decide (b.op = 4)) (decide (op = 5)) := by unfold stpM; rw [hb]
          rw [e0]
          unfold apM
          simp only [decide_eq_true_eq]
          generalize (if b.op = 4 then [0] else x) = bb at *
          by_cases hz : (decide (b.op = 4) != decide (op = 5)) = true
          · rw [if_pos hz] at r ⊢
            refine ⟨plusM l bb, fun q h => ?_, ?_⟩
            · split at h
              · cases h; rfl
              · cases h
            · rw [show (if fitsM (plusM l bb) = true then some (plusM l bb) else none).isSome = fitsM (plusM l bb) by cases fitsM (plusM l bb) <;> rfl]
              exact r
          · rw [if_neg hz] at r ⊢
            exact ⟨minusM l bb, fun q h => (by cases h; rfl), r⟩
    · have L := ref10_list al hal (.bi op a b) hok hf pre suf hl
      refine sp_base hal hok hf _ hn rfl hp hl ⟨fun q => hop (.inl q), fun q => hop (.inr q)⟩ ?_ L
      show (if op = 5 ∨ op = 6 then _ else _) = _
      rw [if_neg hop]
theorem ref10_ExpandLim (s : List UInt8) (T : Ft) (hl : T.flat.length ≤ 900) (h : vld s T.flat = true) (hok : T.ok) (hal : (addT [] T).length ≤ 64) (hm : mdM (addT [] T) [0] T = none) : Ret Try.prog 12 [fmD s T.flat] (· = .tup [mdD [] false [], .int .i64 2]) := by
  have v := ref_Valid s T.flat (by omega)
  rw [h] at v
  have at' := ref10_atoms T.flat (by omega)
  rw [atF_addT T hok] at at'
  obtain ⟨x, _, S⟩ := ref10_steps (addT [] T) hal (nodup_addT T (by simp)) T hok (facsIn_addT T []) [] [] (by simp; omega)
  obtain ⟨y, _, L⟩ := ref10_list (addT [] T) hal T hok (facsIn_addT T []) [] [] (by simp; omega)
  rw [hm, List.nil_append, List.append_nil] at S
  rw [List.nil_append, List.append_nil] at L
  have S : Ret Try.prog 35 [ndsD T.flat, .int .i64 0, fsD (addT [] T)] (· = .tup [tsD x, .bool false]) := S
  have L : Ret Try.prog 36 [ndsD T.flat, .int .i64 0, fsD (addT [] T)] (· = .tup [tsD y, .bool (exM (addT [] T) T).isSome]) := L
  generalize (exM (addT [] T) T).isSome = q at *
  generalize addT [] T = al at *
  generalize T.flat = e at *
  clear hm hok
  refine ret_of_awp tab Try.func12 rfl rfl (Nat.le_of_ble_eq_true rfl) (fun w0 F0 => ?_)
  repeat' (first | refine wG ?_ | refine wC v ?_ | refine wC at' ?_ | refine wC S ?_ | refine wC L ?_ | refine rgK 8 6 [9] ?_ | refine rg 16 9 ?_ | refine wR ?_ | refine wS ?_ ?_ <;> intro _ | refine finTG ?_)
  all_goals exact leT
theorem law10_limit (T : Ft) (hl : T.flat.length ≤ 900) (h : vld [121] T.flat = true) (hok : T.ok) (hal : (addT [] T).length ≤ 64) (hm : mdM (addT [] T) [0] T = none) : Ret Try.prog 20 [ndsD T.flat] (· = .int .i64 2) := by
  have x := ref10_ExpandLim [121] T hl h hok hal hm
  generalize T.flat = e at *
  clear h hok hal hm
  refine ret_of_awp tab Try.func20 rfl rfl (Nat.le_of_ble_eq_true rfl) (fun w0 F0 => ?_)
  repeat' (first | refine wG ?_ | refine wC x ?_ | refine wR ?_ | refine wS ?_ ?_ <;> intro _ | refine finG ?_)
  all_goals rfl
end Go.Proofs.Ytjooknpgcjicbaa

/-
  TermsAreValid. Conditions: none beyond what lists can be.
-/
set_option maxHeartbeats 8000000
namespace Go.Proofs.Ytjooknpgcjicbaa
open Go.Vw
attribute [local irreducible] awp awpL awpR

end Go.Proofs.Ytjooknpgcjicbaa

/-
  The law's join; models of powers. Conditions: as each says.
-/
set_option maxHeartbeats 8000000
namespace Go.Proofs.Ytjooknpgcjicbaa
open Go.Vw
attribute [local irreducible] awp awpL awpR

theorem law10_join (op : Int) (a b : List Nd) (h1 : a.length ≤ 1000) (h2 : b.length ≤ 1000) : Ret Try.prog 19 [.int .i64 op, ndsD a, ndsD b] (· = ndsD ((op, [], 0) :: (a ++ b))) := by
  have e1 : [(op, ([] : List UInt8), (0 : Int))] ++ a ++ b = (op, [], 0) :: (a ++ b) := rfl
  rw [← e1]
  refine ret_of_awp tab Try.func19 rfl rfl (Nat.le_of_ble_eq_true rfl) (fun w0 F0 => ?_)
  repeat' (first | refine stepLitO (d := 9) (en := ndC) (z := nd0) (l := [((op : Int), [], (0 : Int))]) rfl rfl rfl rfl rfl (LeR.cons rfl leL LeR.nil) ?_ | refine wG ?_ | refine wR ?_ | refine wS ?_ ?_ <;> intro _ | refine finG ?_)
  all_goals rfl
end Go.Proofs.Ytjooknpgcjicbaa

/-
  Models that mean the same; the laws of the operations on sets of terms. Conditions: as each says.
-/
namespace Go.Vw
/-! ## models that mean the same -/
theorem sem_zero {al : List Fc} (hn : al.Nodup) {l : List Nat} (bl : BdM al.length l) : 0 ∈ l ↔ Sem al l nulS := by
  constructor
  · intro h; exact ⟨0, h, (decM_zero al).symm⟩
  · rintro ⟨t, ht, e⟩
    rw [← decM_zero al] at e
    have := decM_inj hn (Nat.two_pow_pos _) (bl t ht) e
    rw [this]; exact ht
theorem sem_drop0 {al : List Fc} (hn : al.Nodup) {l : List Nat} (bl : BdM al.length l) : Sem al (minusM l [0]) = difS (Sem al l) (oneS nulS) := by
  rw [sem_minus hn bl (one_ok _).bd, sem_one, decM_zero]
theorem sem_perm {al : List Fc} {l m : List Nat} (h : l.Perm m) : Sem al l = Sem al m :=
  funext fun f => propext ⟨fun ⟨t, ht, e⟩ => ⟨t, h.mem_iff.1 ht, e⟩, fun ⟨t, ht, e⟩ => ⟨t, h.mem_iff.2 ht, e⟩⟩
theorem getD_facs {al : List Fc} {C : List Nat} {i : Nat} (h : i < C.length) : (C.map (facM al)).getD i [] = facM al (C.getD i 0) := by
  rw [List.getD_eq_getElem?_getD, List.getElem?_map, List.getElem?_eq_getElem h, List.getD_eq_getElem?_getD, List.getElem?_eq_getElem h]; rfl
theorem getD_memN {C : List Nat} {i : Nat} (h : i < C.length) : C.getD i 0 ∈ C := by
  rw [List.getD_eq_getElem?_getD, List.getElem?_eq_getElem h]; exact List.getElem_mem h
theorem sameF_dec {al al' : List Fc} (hn : al.Nodup) (hn' : al'.Nodup) {t u : Nat} (h : decM al t = decM al' u) : sameF (facM al t) (facM al' u) = true := by
  have sub : ∀ x, x ∈ facM al t ↔ x ∈ facM al' u := fun x => by rw [mem_facM hn, mem_facM hn', h]
  have hle : ∀ {l m : List Fc}, l.Nodup → (∀ x, x ∈ l → x ∈ m) → l.length ≤ m.length := by
    intro l
    induction l with
    | nil => intro m _ _; exact Nat.zero_le _
    | cons a l ih =>
      intro m hl hs
      have hp := List.nodup_cons.1 hl
      have ha := hs a List.mem_cons_self
      have := ih (m := m.erase a) hp.2 fun y hy => (List.mem_erase_of_ne (fun (q : y = a) => hp.1 (q ▸ hy))).2 (hs y (List.mem_cons_of_mem _ hy))
      rw [List.length_erase_of_mem ha] at this
      have := List.length_pos_of_mem ha
      rw [List.length_cons]; omega
  unfold sameF
  rw [Bool.and_eq_true, decide_eq_true_eq, Bool.not_eq_true', List.any_eq_false]
  refine ⟨Nat.le_antisymm (hle (nodup_facM hn t) fun x hx => (sub x).1 hx) (hle (nodup_facM hn' u) fun x hx => (sub x).2 hx), fun x hx => ?_⟩
  simpa using (sub x).1 hx
theorem sameF_inv {al al' : List Fc} (hn : al.Nodup) (hn' : al'.Nodup) {t u : Nat} (h : sameF (facM al t) (facM al' u) = true) : decM al t = decM al' u := by
  unfold sameF at h
  rw [Bool.and_eq_true, decide_eq_true_eq, Bool.not_eq_true', List.any_eq_false] at h
  obtain ⟨h1, h2⟩ := h
  have sub : ∀ x, x ∈ facM al t → x ∈ facM al' u := fun x hx => by simpa using h2 x hx
  have sup := nodup_sup (nodup_facM hn t) sub (by omega)
  exact funext fun x => propext ⟨fun q => (mem_facM hn').1 (sub x ((mem_facM hn).2 q)), fun q => (mem_facM hn).1 (sup x ((mem_facM hn').2 q))⟩
/-! ## laws -/
theorem fs_ext {A B : FsS} (h : ∀ f, A f ↔ B f) : A = B := funext fun f => propext (h f)
end Go.Vw

/-
  The law's same, agree and short. Conditions: as each says.
-/
set_option maxHeartbeats 8000000
namespace Go.Proofs.Ytjooknpgcjicbaa
open Go.Vw
attribute [local irreducible] awp awpL awpR

theorem expand_cases {T : Ft} (hok : T.ok) (hl : T.flat.length ≤ 64) : (mdM (addT [] T) [0] T = none ∧ Ret Try.prog 11 [fmD [121] T.flat] (· = .tup [mdD [] false [], .int .i64 2]) ∧ Ret Try.prog 20 [ndsD T.flat] (· = .int .i64 2)) ∨ ∃ (l C : List Nat), mdM (addT [] T) [0] T = some l ∧ C.Perm (minusM l [0]) ∧ TmOk (addT [] T).length l ∧ Go.Vw.Sem (addT [] T) l = mdS T ∧ C.length ≤ 32 ∧ (∀ i, ((C.map (facM (addT [] T))).getD i []).length ≤ 64) ∧ Ret Try.prog 11 [fmD [121] T.flat] (· = .tup [mdD [121] (decide (0 ∈ l)) (C.map (facM (addT [] T))), .int .i64 0]) := by
  have hal : (addT [] T).length ≤ 64 := by
    have := addT_len T []
    simp at this; omega
  have hn : (addT [] T).Nodup := nodup_addT T (by simp)
  have hv : vld [121] T.flat = true := by rw [vld_mk (by decide) ⟨_, rfl, hok⟩]; exact decide_eq_true hl
  cases hm : mdM (addT [] T) [0] T with
  | none => exact .inl ⟨rfl, terms_ExpandLim [121] T.flat T (by omega) hv rfl hok hal hm, law10_limit T (by omega) hv hok hal hm⟩
  | some l =>
    obtain ⟨C, C1, C2, x⟩ := terms_ExpandOk [121] T.flat T (by omega) hv rfl hok hal l hm
    obtain ⟨ol, os⟩ := mdM_all hal hn T hok (facsIn_addT T []) l hm
    refine .inr ⟨l, C, rfl, C1, ol, os, ?_, fun i => ?_, x⟩
    · rw [C1.length_eq]
      exact Nat.le_trans (List.length_filter_le _ _) (fitsM_len ol.fit)
    · rw [List.getD_eq_getElem?_getD, List.getElem?_map]
      cases C[i]? with
      | none => exact Nat.zero_le _
      | some t =>
        have := facP_len (addT [] T) t (addT [] T).length
        rw [facP_all] at this
        show (facM (addT [] T) t).length ≤ 64
        omega
theorem law10_short (s : List UInt8) (e : List Nd) (nm : List UInt8) (he : e.length ≤ maxLen) : Ret Try.prog 17 [fmD s e, .str nm] (· = ndsD (if e.length ≤ 12 ∧ vld s e = true then e else [(1, nm, 0)])) := by
  by_cases h12 : e.length ≤ 12
  · have rv := ref_Valid s e (by omega)
    cases hv : vld s e with
    | true =>
      rw [hv] at rv
      rw [if_pos ⟨h12, rfl⟩]
      refine ret_of_awp tab Try.func17 rfl rfl (Nat.le_of_ble_eq_true rfl) (fun w0 F0 => ?_)
      repeat' (first | refine wG ?_ | refine wC rv ?_ | refine wR ?_ | refine wS ?_ ?_ <;> intro _ | refine finG ?_)
      all_goals rfl
    | false =>
      rw [hv] at rv
      rw [if_neg (fun q => by cases q.2)]
      refine ret_of_awp tab Try.func17 rfl rfl (Nat.le_of_ble_eq_true rfl) (fun w0 F0 => ?_)
      repeat' (first | refine stepLitO (d := 16) (en := ndC) (z := nd0) (l := [((1 : Int), nm, (0 : Int))]) rfl rfl rfl rfl rfl (LeR.cons rfl leL LeR.nil) ?_ | refine wG ?_ | refine wC rv ?_ | refine wR ?_ | refine wS ?_ ?_ <;> intro _ | refine finG ?_)
      all_goals rfl
  · rw [if_neg (fun q => h12 q.1)]
    refine ret_of_awp tab Try.func17 rfl rfl (Nat.le_of_ble_eq_true rfl) (fun w0 F0 => ?_)
    repeat' (first | refine stepLitO (d := 16) (en := ndC) (z := nd0) (l := [((1 : Int), nm, (0 : Int))]) rfl rfl rfl rfl rfl (LeR.cons rfl leL LeR.nil) ?_ | refine wG ?_ | refine wR ?_ | refine wS ?_ ?_ <;> intro _ | refine finG ?_)
    all_goals rfl
end Go.Proofs.Ytjooknpgcjicbaa

/-
  Lists of the same meaning fit alike; short right sides that fit step by step fit as a whole. Conditions: as each says.
-/
namespace Go.Vw
theorem fits_sem_le {al al' : List Fc} (hn : al.Nodup) (hn' : al'.Nodup) (h64 : al.length ≤ 64) (h64' : al'.length ≤ 64) {l l' : List Nat} (hl : l.Nodup) (hl' : l'.Nodup) (bl : BdM al.length l) (bl' : BdM al'.length l') (h : Sem al l = Sem al' l') (hf : fitsM l = true) : fitsM l' = true := by
  obtain ⟨h1, h2⟩ := fitsM_iff.1 hf
  refine fitsM_iff.2 ⟨by rw [← sem_len hn hn' hl hl' bl bl' h]; exact h1, fun u hu => ?_⟩
  have q : Sem al' l' (decM al' u) := ⟨u, hu, rfl⟩
  rw [← h] at q
  obtain ⟨t, ht, e⟩ := q
  have s := sameF_dec hn hn' e.symm
  unfold sameF at s
  rw [Bool.and_eq_true, decide_eq_true_eq, popc_facM h64 (bl t ht), popc_facM h64' (bl' u hu)] at s
  rw [← s.1]; exact h2 t ht
theorem fits_sem {al al' : List Fc} (hn : al.Nodup) (hn' : al'.Nodup) (h64 : al.length ≤ 64) (h64' : al'.length ≤ 64) {l l' : List Nat} (hl : l.Nodup) (hl' : l'.Nodup) (bl : BdM al.length l) (bl' : BdM al'.length l') (h : Sem al l = Sem al' l') : fitsM l = fitsM l' := by
  cases e : fitsM l with
  | true => exact (fits_sem_le hn hn' h64 h64' hl hl' bl bl' h e).symm
  | false => cases e' : fitsM l' with
    | false => rfl
    | true => rw [fits_sem_le hn' hn h64' h64 hl' hl bl' bl h.symm e'] at e; cases e
theorem fitO_is (l : List Nat) : (fitO l).isSome = fitsM l := by unfold fitO; cases fitsM l <;> rfl
theorem exM_inv {al al' : List Fc} (hn : al.Nodup) (hn' : al'.Nodup) (h64 : al.length ≤ 64) (h64' : al'.length ≤ 64) : ∀ (T : Ft), T.ok → facsIn al T → facsIn al' T → (exM al T).isSome = (exM al' T).isSome
  | .leaf n, hok, hf, hf' => rfl
  | .un k a, hok, hf, hf' => by
    have ih := exM_inv hn hn' h64 h64' a hok.2.2 hf hf'
    cases ha : exM al a with
    | none => rw [ha] at ih; cases ha' : exM al' a with
      | none => simp only [exM, ha, ha']
      | some m => rw [ha'] at ih; cases ih
    | some l => rw [ha] at ih; cases ha' : exM al' a with
      | none => rw [ha'] at ih; cases ih
      | some l' =>
        have o := exM_ok h64 a hok.2.2 hf l ha
        have o' := exM_ok h64' a hok.2.2 hf' l' ha'
        simp only [exM, ha, ha', fitO_is]
        exact fits_sem hn hn' h64 h64' (nodup_powM o.nd _) (nodup_powM o'.nd _) (o.bd.pow _) (o'.bd.pow _) (by rw [sem_pow, sem_pow, exM_sem h64 hn a hok.2.2 hf l ha, exM_sem h64' hn' a hok.2.2 hf' l' ha'])
  | .bi op a b, hok, hf, hf' => by
    have ih := exM_inv hn hn' h64 h64' a hok.2.2.1 hf.1 hf'.1
    have ih2 := exM_inv hn hn' h64 h64' b hok.2.2.2 hf.2 hf'.2
    cases ha : exM al a with
    | none => rw [ha] at ih; cases ha' : exM al' a with
      | none => simp only [exM, ha, ha']
      | some m => rw [ha'] at ih; cases ih
    | some l => rw [ha] at ih; cases ha' : exM al' a with
      | none => rw [ha'] at ih; cases ih
      | some l' => cases hb : exM al b with
        | none => rw [hb] at ih2; cases hb' : exM al' b with
          | none => simp only [exM, ha, ha', hb, hb']
          | some m => rw [hb'] at ih2; cases ih2
        | some m => rw [hb] at ih2; cases hb' : exM al' b with
          | none => rw [hb'] at ih2; cases ih2
          | some m' =>
            have o := exM_ok h64 a hok.2.2.1 hf.1 l ha
            have o' := exM_ok h64' a hok.2.2.1 hf'.1 l' ha'
            have p := exM_ok h64 b hok.2.2.2 hf.2 m hb
            have p' := exM_ok h64' b hok.2.2.2 hf'.2 m' hb'
            simp only [exM, ha, ha', hb, hb', fitO_is]
            exact fits_sem hn hn' h64 h64' (nodup_opM o.nd) (nodup_opM o'.nd) (o.bd.op p.bd) (o'.bd.op p'.bd) (by rw [sem_op hn op o.bd p.bd, sem_op hn' op o'.bd p'.bd, exM_sem h64 hn a hok.2.2.1 hf.1 l ha, exM_sem h64' hn' a hok.2.2.1 hf'.1 l' ha', exM_sem h64 hn b hok.2.2.2 hf.2 m hb, exM_sem h64' hn' b hok.2.2.2 hf'.2 m' hb'])
theorem apM_inv {al al' : List Fc} (hn : al.Nodup) (hn' : al'.Nodup) (h64 : al.length ≤ 64) (h64' : al'.length ≤ 64) {l m l' m' : List Nat} (z add : Bool) (o : TmOk al.length l) (o' : TmOk al'.length l') (p : TmOk al.length m) (p' : TmOk al'.length m') (h1 : Sem al l = Sem al' l') (h2 : Sem al m = Sem al' m') : (apM l m z add).isSome = (apM l' m' z add).isSome := by
  have q : TmOk al.length (if z = true then [0] else m) := by split; exact one_ok _; exact p
  have q' : TmOk al'.length (if z = true then [0] else m') := by split; exact one_ok _; exact p'
  have e : Sem al (if z = true then [0] else m) = Sem al' (if z = true then [0] else m') := by
    split
    · rw [sem_one, sem_one, decM_zero, decM_zero]
    · exact h2
  unfold apM
  generalize (if z = true then [0] else m) = n at *
  generalize (if z = true then [0] else m') = n' at *
  by_cases hz : (z != add) = true
  · rw [if_pos hz, if_pos hz, ← fits_sem hn hn' h64 h64' (nodup_plusM o.nd) (nodup_plusM o'.nd) (o.bd.plus q.bd) (o'.bd.plus q'.bd) (by rw [sem_plus, sem_plus, h1, e])]
    cases fitsM (plusM l n) <;> rfl
  · rw [if_neg hz, if_neg hz]; rfl
theorem stpM_none {al : List Fc} {o : Option (List Nat)} {T : Ft} {add : Bool} (h : o = none ∨ exM al T = none) : stpM al o T add = none := by
  unfold stpM
  rcases h with h | h
  · rw [h]
  · rw [h]; cases o <;> rfl
theorem stpM_some {al : List Fc} {l x : List Nat} {T : Ft} {add : Bool} (h : exM al T = some x) : stpM al (some l) T add = apM l x (decide (T.op = 4)) add := by unfold stpM; rw [h]
theorem stpM_inv {al al' : List Fc} (hn : al.Nodup) (hn' : al'.Nodup) (h64 : al.length ≤ 64) (h64' : al'.length ≤ 64) {o o' : Option (List Nat)} {S : FsS} (ho : ∀ l, o = some l → TmOk al.length l ∧ Sem al l = S) (ho' : ∀ l, o' = some l → TmOk al'.length l ∧ Sem al' l = S) (hi : o.isSome = o'.isSome) {T : Ft} (hok : T.ok) (hf : facsIn al T) (hf' : facsIn al' T) (add : Bool) : (stpM al o T add).isSome = (stpM al' o' T add).isSome := by
  have ih2 := exM_inv hn hn' h64 h64' T hok hf hf'
  cases o with
  | none => cases o' with
    | none => rw [stpM_none (.inl rfl), stpM_none (.inl rfl)]
    | some l => cases hi
  | some l => cases o' with
    | none => cases hi
    | some l' => cases hb : exM al T with
      | none => rw [hb] at ih2; cases hb' : exM al' T with
        | none => rw [stpM_none (.inr hb), stpM_none (.inr hb')]
        | some m => rw [hb'] at ih2; cases ih2
      | some m => rw [hb] at ih2; cases hb' : exM al' T with
        | none => rw [hb'] at ih2; cases ih2
        | some m' =>
          obtain ⟨o1, s1⟩ := ho l rfl
          obtain ⟨o2, s2⟩ := ho' l' rfl
          rw [stpM_some hb, stpM_some hb']
          exact apM_inv hn hn' h64 h64' _ _ o1 o2 (exM_ok h64 T hok hf m hb) (exM_ok h64' T hok hf' m' hb') (s1.trans s2.symm) (by rw [exM_sem h64 hn T hok hf m hb, exM_sem h64' hn' T hok hf' m' hb'])
theorem one_sem (al : List Fc) : ∀ l, some [0] = some l → TmOk al.length l ∧ Sem al l = oneS nulS := fun l h => by
  cases h
  exact ⟨one_ok _, by rw [sem_one, decM_zero]⟩
theorem mdM_inv {al al' : List Fc} (hn : al.Nodup) (hn' : al'.Nodup) (h64 : al.length ≤ 64) (h64' : al'.length ≤ 64) : ∀ (T : Ft), T.ok → facsIn al T → facsIn al' T → (mdM al [0] T).isSome = (mdM al' [0] T).isSome
  | .leaf n, hok, hf, hf' => stpM_inv hn hn' h64 h64' (one_sem al) (one_sem al') rfl hok hf hf' true
  | .un k a, hok, hf, hf' => stpM_inv hn hn' h64 h64' (one_sem al) (one_sem al') rfl (T := .un k a) hok hf hf' true
  | .bi op a b, hok, hf, hf' => by
    unfold mdM
    by_cases hop : op = 5 ∨ op = 6
    · rw [if_pos hop, if_pos hop]
      exact stpM_inv hn hn' h64 h64' (S := mdS a) (fun l h => mdM_all h64 hn a hok.2.2.1 hf.1 l h) (fun l h => mdM_all h64' hn' a hok.2.2.1 hf'.1 l h) (mdM_inv hn hn' h64 h64' a hok.2.2.1 hf.1 hf'.1) hok.2.2.2 hf.2 hf'.2 _
    · rw [if_neg hop, if_neg hop]
      exact stpM_inv hn hn' h64 h64' (one_sem al) (one_sem al') rfl (T := .bi op a b) hok hf hf' true
/-! ## short right sides -/
theorem fits5 {n : Nat} {l : List Nat} (hn : n ≤ 5) (hl : l.Nodup) (hb : BdM n l) : fitsM l = true := by
  have h32 : ∀ t ∈ l, t < 2 ^ 5 := fun t ht => Nat.lt_of_lt_of_le (hb t ht) (Nat.pow_le_pow_right (by decide) hn)
  refine fitsM_iff.2 ⟨?_, fun t ht => ?_⟩
  · have := nodup_sub_len (m := List.range 32) hl fun t ht => List.mem_range.2 (h32 t ht)
    rwa [List.length_range] at this
  · have : popc t = popcF 5 t := by rw [popc, show 64 = 5 + 59 from rfl, popcF_more _ _ _ (h32 t ht)]
    rw [this]
    exact Nat.le_trans (popcF_le 5 t) (by decide)
theorem exM_few {al : List Fc} (h5 : al.length ≤ 5) : ∀ (T : Ft), T.ok → facsIn al T → (exM al T).isSome = true
  | .leaf n, hok, hf => rfl
  | .un k a, hok, hf => by
    have ih := exM_few h5 a hok.2.2 hf
    cases ha : exM al a with
    | none => rw [ha] at ih; cases ih
    | some l =>
      have o := exM_ok (by omega) a hok.2.2 hf l ha
      simp only [exM, ha, fitO_is]
      exact fits5 h5 (nodup_powM o.nd _) (o.bd.pow _)
  | .bi op a b, hok, hf => by
    have ih := exM_few h5 a hok.2.2.1 hf.1
    have ih2 := exM_few h5 b hok.2.2.2 hf.2
    cases ha : exM al a with
    | none => rw [ha] at ih; cases ih
    | some l => cases hb : exM al b with
      | none => rw [hb] at ih2; cases ih2
      | some m =>
        have o := exM_ok (by omega) a hok.2.2.1 hf.1 l ha
        have p := exM_ok (by omega) b hok.2.2.2 hf.2 m hb
        simp only [exM, ha, hb, fitO_is]
        exact fits5 h5 (nodup_opM o.nd) (o.bd.op p.bd)
def nz : Ft → Prop
  | .leaf n => n.1 ≠ 4
  | .un _ a => nz a
  | .bi _ a b => nz a ∧ nz b
def fl : Ft → Nat
  | .leaf n => if n.1 = 1 ∨ n.1 = 2 then 1 else 0
  | .un _ a => fl a
  | .bi _ a b => fl a + fl b
def lv : Ft → Nat
  | .leaf n => 1
  | .un _ a => lv a
  | .bi _ a b => lv a + lv b
theorem fl_le : ∀ T, fl T ≤ lv T
  | .leaf n => by unfold fl lv; split <;> omega
  | .un _ a => fl_le a
  | .bi _ a b => Nat.add_le_add (fl_le a) (fl_le b)
theorem fl_nz : ∀ T, ¬ nz T → fl T + 1 ≤ lv T
  | .leaf n, h => by
    have h : ¬ n.1 ≠ 4 := h
    unfold fl lv; rw [if_neg (by omega)]; omega
  | .un _ a, h => fl_nz a h
  | .bi _ a b, h => by
    have h : ¬ (nz a ∧ nz b) := h
    show fl a + fl b + 1 ≤ lv a + lv b
    have h1 := fl_le a
    have h2 := fl_le b
    by_cases ha : nz a
    · have := fl_nz b (fun q => h ⟨ha, q⟩); omega
    · have := fl_nz a ha; omega
theorem lv_flat : ∀ T : Ft, 2 * lv T ≤ T.flat.length + 1
  | .leaf n => by show 2 * 1 ≤ 1 + 1; omega
  | .un k a => by have := lv_flat a; show 2 * lv a ≤ (a.flat.length + 1) + 1; omega
  | .bi op a b => by
    have := lv_flat a
    have := lv_flat b
    show 2 * (lv a + lv b) ≤ (a.flat ++ b.flat).length + 1 + 1
    rw [List.length_append]; omega
theorem addT_fl : ∀ (T : Ft) (fs : List Fc), (addT fs T).length ≤ fs.length + fl T
  | .leaf n, fs => by
    unfold addT fl addF
    repeat' split
    all_goals simp
  | .un k a, fs => addT_fl a fs
  | .bi op a b, fs => by
    have := addT_fl a fs
    have := addT_fl b (addT fs a)
    show (addT (addT fs a) b).length ≤ fs.length + (fl a + fl b)
    omega
theorem op_nz {T : Ft} (h : nz T) (hok : T.ok) : T.op ≠ 4 := by
  cases T with
  | leaf n => exact h
  | un k a => show (10 : Int) ≠ 4; decide
  | bi op a b => have := hok.1; show op ≠ 4; omega
theorem nz_fits {al : List Fc} (h64 : al.length ≤ 64) (hn : al.Nodup) : ∀ (T : Ft), T.ok → facsIn al T → nz T → ∀ l, mdM al [0] T = some l → ∃ x, exM al T = some x ∧ ∀ t ∈ x, t ∈ l := by
  have base : ∀ (T : Ft), T.ok → nz T → ∀ l, stpM al (some [0]) T true = some l → ∃ x, exM al T = some x ∧ ∀ t ∈ x, t ∈ l := fun T hok hz l h => by
    cases hx : exM al T with
    | none => rw [stpM_none (.inr hx)] at h; cases h
    | some x =>
      rw [stpM_some hx, decide_eq_false (op_nz hz hok)] at h
      have h : (if fitsM (plusM [0] x) then some (plusM [0] x) else none) = some l := h
      split at h
      · cases h
        exact ⟨x, rfl, fun t ht => mem_plusM.2 (.inr ht)⟩
      · cases h
  intro T
  induction T with
  | leaf n => intro hok hf hz l h; exact base _ hok hz l h
  | un k a ih => intro hok hf hz l h; exact base _ hok hz l h
  | bi op a b iha ihb =>
    intro hok hf hz l h
    unfold mdM at h
    by_cases hop : op = 5 ∨ op = 6
    · rw [if_pos hop] at h
      cases ha : mdM al [0] a with
      | none => rw [ha, stpM_none (.inl rfl)] at h; cases h
      | some la =>
        obtain ⟨x, hx, sx⟩ := iha hok.2.2.1 hf.1 hz.1 la ha
        rw [ha] at h
        cases hb : exM al b with
        | none => rw [stpM_none (.inr hb)] at h; cases h
        | some y =>
          rw [stpM_some hb, decide_eq_false (op_nz hz.2 hok.2.2.2)] at h
          have ox := exM_ok h64 a hok.2.2.1 hf.1 x hx
          simp only [exM, hx, hb]
          rcases hop with rfl | rfl
          · have h : (if fitsM (plusM la y) then some (plusM la y) else none) = some l := h
            split at h
            · rename_i hf2
              cases h
              have sub : ∀ t ∈ opM 5 x y, t ∈ plusM la y := fun t ht => by
                have ht : t ∈ plusM x y := ht
                exact mem_plusM.2 ((mem_plusM.1 ht).imp (sx t) id)
              have := fits_sub (nodup_opM (op := 5) ox.nd) sub hf2
              unfold fitO
              rw [if_pos this]
              exact ⟨_, rfl, sub⟩
            · cases h
          · have h : some (minusM la y) = some l := h
            cases h
            have sub : ∀ t ∈ opM 6 x y, t ∈ minusM la y := fun t ht => by
              have ht : t ∈ minusM x y := ht
              exact mem_minusM.2 ⟨sx t (mem_minusM.1 ht).1, (mem_minusM.1 ht).2⟩
            have := fits_sub (nodup_opM (op := 6) ox.nd) (fun t ht => by
              have ht : t ∈ minusM x y := ht
              exact (mem_minusM.1 ht).1) ox.fit
            unfold fitO
            rw [if_pos this]
            exact ⟨_, rfl, sub⟩
    · rw [if_neg hop] at h
      exact base _ hok hz l h
theorem short_fits {T : Ft} (hok : T.ok) (hl : T.flat.length ≤ 12) (h : (mdM (addT [] T) [0] T).isSome = true) : (exM (addT [] T) T).isSome = true := by
  have h1 := lv_flat T
  have h2 := addT_fl T []
  simp only [List.length_nil] at h2
  by_cases hz : nz T
  · cases hm : mdM (addT [] T) [0] T with
    | none => rw [hm] at h; cases h
    | some l =>
      have := fl_le T
      obtain ⟨x, hx, _⟩ := nz_fits (by omega) (nodup_addT T (by simp)) T hok (facsIn_addT T []) hz l hm
      rw [hx]; rfl
  · have := fl_nz T hz
    exact exM_few (by omega) T hok (facsIn_addT T [])
end Go.Vw

/-
  The reference's models. Conditions: as each says.
-/
set_option maxHeartbeats 8000000
namespace Go.Proofs.Ytjooknpgcjicbaa
open Go.Vw
attribute [local irreducible] awp awpL awpR

theorem ref10_factors (fs : List Fc) (t : Nat) (hl : fs.length ≤ 64) (ht : t < 2 ^ 64) : Ret Try.prog 39 [tD t, fsD fs] (· = fsD (facM fs t)) := by
  have st := facP_step fs t
  have pl := facP_len fs t
  rw [← facP_all fs t]
  have p0 := facP_zero fs t
  generalize facP fs t = G at *
  refine ret_of_awp tab Try.func39 rfl rfl (Nat.le_of_ble_eq_true rfl) (fun w0 F0 => ?_)
  repeat' (first | refine wG ?_ | refine wR ?_ | refine wS ?_ ?_ <;> intro _ | refine finG ?_)
  refine awp_adopt 5 500 fcT 2 fcC fc0 rfl ?_
  refine awp_loop1 (fun (i : Nat) => ([(0, .d (tD t)), (1, .d (fsD fs)), (5, fO (G i).length), (6, .d (.int .i64 i))], [(500, fB (G i))])) (fun i => i ≤ fs.length) (fun i => fs.length - i) 0 (by omega) ⟨rfl, rfl, fOEq (by rw [p0]; rfl), rfl, rfl⟩ ⟨fBEq p0.symm, trivial⟩ (fun i hi => ?_)
  have li := pl i
  by_cases h3 : i < fs.length
  · have si := st i
    have b1 := bit_one (t := t) (i := i)
    obtain ⟨z1, z2⟩ := shr_lim (i := i) ht
    cases hb : t.testBit i with
    | true =>
      rw [hb] at si b1
      rw [if_pos rfl] at si
      have b2 := b1.2 rfl
      clear st pl b1
      repeat' (first | refine wG ?_ | refine wR ?_ | refine wS ?_ ?_ <;> intro _ | refine finG ?_)
      exact ⟨i + 1, by omega, by omega, ⟨rfl, rfl, fOEq (by rw [si]), iv (by omega), rfl⟩, fBEq si.symm, trivial⟩
    | false =>
      rw [hb] at si b1
      rw [if_neg (by decide), List.append_nil] at si
      have b2 : ¬ ((((t : Int) / 2 ^ ((i : Int)).toNat).toNat &&& Int.toNat 1 : Nat) : Int) = 1 := fun h => absurd (b1.1 h) (by decide)
      clear st pl b1
      repeat' (first | refine wG ?_ | refine wR ?_ | refine wS ?_ ?_ <;> intro _ | refine finG ?_)
      exact ⟨i + 1, by omega, by omega, ⟨rfl, rfl, fOEq (by rw [si]), iv (by omega), rfl⟩, fBEq si.symm, trivial⟩
  · have e : i = fs.length := by omega
    subst e
    clear st pl
    repeat' (first | refine wG ?_ | refine wR ?_ | refine wS ?_ ?_ <;> intro _ | refine finG ?_)
    rfl
end Go.Proofs.Ytjooknpgcjicbaa

/-
  The terms of a list in the order of their sizes. Conditions: none.
-/
namespace Go.Vw
def bySz (l : List Nat) : Nat → List Nat
  | 0 => []
  | n + 1 => bySz l n ++ l.filter fun t => decide (popc t = n + 1)
theorem mem_bySz {l : List Nat} {t : Nat} : ∀ n, t ∈ bySz l n ↔ t ∈ l ∧ 1 ≤ popc t ∧ popc t ≤ n
  | 0 => by simp [bySz]; omega
  | n + 1 => by
    unfold bySz
    rw [List.mem_append, mem_bySz n, List.mem_filter, decide_eq_true_eq]
    constructor
    · rintro (⟨h, h1, h2⟩ | ⟨h, h1⟩)
      · exact ⟨h, h1, by omega⟩
      · exact ⟨h, by omega, by omega⟩
    · rintro ⟨h, h1, h2⟩
      by_cases e : popc t = n + 1
      · exact .inr ⟨h, e⟩
      · exact .inl ⟨h, h1, by omega⟩
theorem bySz_len (l : List Nat) : ∀ n, (bySz l n).length ≤ n * l.length
  | 0 => by simp [bySz]
  | n + 1 => by
    unfold bySz
    have := bySz_len l n
    have := List.length_filter_le (fun t => decide (popc t = n + 1)) l
    rw [List.length_append, Nat.add_mul]; omega
def bySzI (l : List Nat) (n i : Nat) : List Nat := bySz l n ++ (l.take i).filter fun t => decide (popc t = n + 1)
theorem bySzI_zero (l : List Nat) (n : Nat) : bySzI l n 0 = bySz l n := by unfold bySzI; simp
theorem bySzI_end (l : List Nat) (n : Nat) : bySzI l n l.length = bySz l (n + 1) := by unfold bySzI; rw [List.take_of_length_le (Nat.le_refl _)]; rfl
theorem bySzI_step {l : List Nat} {n i : Nat} (h : i < l.length) : bySzI l n (i + 1) = bySzI l n i ++ if popc (l.getD i 0) = n + 1 then [l.getD i 0] else [] := by
  unfold bySzI
  rw [take_snoc 0 h, List.filter_append, ← List.append_assoc, List.filter_cons, List.filter_nil]
  by_cases q : popc (l.getD i 0) = n + 1
  · rw [if_pos (decide_eq_true q), if_pos q]
  · rw [if_neg (by rw [decide_eq_true_eq]; exact q), if_neg q]
theorem bySzI_len (l : List Nat) (n i : Nat) : (bySzI l n i).length ≤ n * l.length + l.length := by
  unfold bySzI
  have := bySz_len l n
  have := List.length_filter_le (fun t => decide (popc t = n + 1)) (l.take i)
  rw [List.length_take] at this
  rw [List.length_append]; omega
end Go.Vw

/-
  The reference's models: Expand. Conditions: as each says.
-/
set_option maxHeartbeats 8000000
namespace Go.Proofs.Ytjooknpgcjicbaa
open Go.Vw
attribute [local irreducible] awp awpL awpR

theorem bxR {s : List UInt8} {bi : Bool} {n m : Nat} (h : n = m) : some (Blk.box mdT [.d (.str s), .d (.bool bi), .own 71 0 n 34 1]) = some (Blk.box mdT [.d (.str s), .d (.bool bi), .own 71 0 m 34 1]) := by rw [h]
theorem ref10_ExpandOk (s : List UInt8) (T : Ft) (hl : T.flat.length ≤ 900) (h : vld s T.flat = true) (hok : T.ok) (hal : (addT [] T).length ≤ 64) (l : List Nat) (hm : mdM (addT [] T) [0] T = some l) (hx : (exM (addT [] T) T).isSome = true) : Ret Try.prog 12 [fmD s T.flat] (· = .tup [mdD s (decide (0 ∈ l)) ((bySz l 6).map (facM (addT [] T))), .int .i64 0]) := by
  have v := ref_Valid s T.flat (by omega)
  rw [h] at v
  have at' := ref10_atoms T.flat (by omega)
  rw [atF_addT T hok] at at'
  obtain ⟨x, ex, S⟩ := ref10_steps (addT [] T) hal (nodup_addT T (by simp)) T hok (facsIn_addT T []) [] [] (by simp; omega)
  obtain ⟨y, _, L⟩ := ref10_list (addT [] T) hal T hok (facsIn_addT T []) [] [] (by simp; omega)
  have := ex l hm
  subst this
  have ox := bd64 hal (mdM_all hal (nodup_addT T (by simp)) T hok (facsIn_addT T []) x hm).1
  rw [hm, List.nil_append, List.append_nil] at S
  rw [hx, List.nil_append, List.append_nil] at L
  have S : Ret Try.prog 35 [ndsD T.flat, .int .i64 0, fsD (addT [] T)] (· = .tup [tsD x, .bool true]) := S
  have L : Ret Try.prog 36 [ndsD T.flat, .int .i64 0, fsD (addT [] T)] (· = .tup [tsD y, .bool true]) := L
  have lx := fitsM_len ox.fit
  have c0 := ref10_has x 0 (by omega)
  have sz := fun i => ref10_size (x.getD i 0) (ox.bd.getD i)
  have fc := fun i => ref10_factors (addT [] T) (x.getD i 0) hal (ox.bd.getD i)
  have pz : ∀ i, popc (x.getD i 0) ≤ 64 := fun i => popcF_le 64 _
  have bl := fun n i => bySzI_len x n i
  have bs := fun n i (h : i < x.length) => bySzI_step (n := n) h
  have b0 : bySzI x 0 0 = [] := by rw [bySzI_zero]; rfl
  have bn : ∀ n, bySzI x n x.length = bySzI x (n + 1) 0 := fun n => by rw [bySzI_end, bySzI_zero]
  rw [show bySz x 6 = bySzI x 6 0 by rw [bySzI_zero]]
  generalize bySzI x = B at *
  generalize decide (0 ∈ x) = bi at *
  generalize addT [] T = al at *
  generalize T.flat = e at *
  clear hm hok hx ex ox h
  refine ret_of_awp tab Try.func12 rfl rfl (Nat.le_of_ble_eq_true rfl) (fun w0 F0 => ?_)
  repeat' (first | refine stopA 9 tt ?_ | refine wG ?_ | refine wC v ?_ | refine wC at' ?_ | refine wC S ?_ | refine wC L ?_ | refine wC c0 ?_ | refine rgK 8 6 [9] ?_ | refine rg 16 9 ?_ | refine wR ?_ | refine wS ?_ ?_ <;> intro _ | refine finTG ?_)
  refine stopOut ?_
  refine awp_slots [(2, .ptr 2 0), (4, .d (fsD al)), (5, .d (tsD x)), (9, .ptr 9 0)] [(2, .box mdT [.d (.str []), .d (.bool false), .d .nils]), (9, .box mdT [.d (.str s), .d (.bool bi), .d .nils])] ⟨rfl, rfl, rfl, rfl, rfl⟩ ⟨rfl, rfl, trivial⟩ ?_
  refine awp_adoptB 9 2 71 34 1 rwC [] rfl rfl rfl ?_
  clear v at' S L c0
  repeat' (first | refine wG ?_ | refine rgK 8 6 [9] ?_ | refine rg 16 9 ?_ | refine wR ?_ | refine wS ?_ ?_ <;> intro _ | refine finG ?_)
  refine awp_loop1 (fun (n : Nat) => ([(2, .ptr 2 0), (4, .d (fsD al)), (5, .d (tsD x)), (9, .ptr 9 0), (10, .d (.int .i64 ((n + 1 : Nat) : Int)))], [(2, .box mdT [.d (.str []), .d (.bool false), .d .nils]), (9, .box mdT [.d (.str s), .d (.bool bi), .own 71 0 (B n 0).length 34 1]), (71, .data 34 1 rwC [] ((B n 0).map (facM al)))])) (fun n => n ≤ 6) (fun n => 6 - n) 0 (by omega) ⟨rfl, rfl, rfl, rfl, rfl, rfl⟩ ⟨rfl, bxR (by rw [b0]; rfl), rwEq (by rw [b0]; rfl), trivial⟩ (fun n hn => ?_)
  by_cases h6 : n < 6
  · repeat' (first | refine wG ?_ | refine rgK 8 6 [9] ?_ | refine rg 16 9 ?_ | refine wR ?_ | refine wS ?_ ?_ <;> intro _ | refine finG ?_)
    refine awp_loop1 (fun (i : Nat) => ([(2, .ptr 2 0), (4, .d (fsD al)), (5, .d (tsD x)), (9, .ptr 9 0), (10, .d (.int .i64 ((n + 1 : Nat) : Int))), (11, .d (.int .i64 i))], [(2, .box mdT [.d (.str []), .d (.bool false), .d .nils]), (9, .box mdT [.d (.str s), .d (.bool bi), .own 71 0 (B n i).length 34 1]), (71, .data 34 1 rwC [] ((B n i).map (facM al)))])) (fun i => i ≤ x.length) (fun i => x.length - i) 0 (by omega) ⟨rfl, rfl, rfl, rfl, rfl, rfl, rfl⟩ ⟨rfl, rfl, rfl, trivial⟩ (fun i hi => ?_)
    by_cases h3 : i < x.length
    · have c := sz i
      have f := fc i
      have q0 := pz i
      have st := bs n i h3
      have le := bl n i
      have nl : n * x.length ≤ 6 * 32 := Nat.mul_le_mul hn lx
      have tl : ((B n i).map (facM al)).length = (B n i).length := List.length_map ..
      generalize n * x.length = nx at *
      by_cases hp : popc (x.getD i 0) = n + 1
      · rw [if_pos hp] at st
        generalize popc (x.getD i 0) = w at *
        clear bn bs bl pz sz fc
        repeat' (first | refine wG ?_ | refine wC c ?_ | refine wC f ?_ | refine rgK 8 6 [9] ?_ | refine rg 16 9 ?_ | refine wR ?_ | refine wS ?_ ?_ <;> intro _ | refine finG ?_)
        exact ⟨i + 1, by omega, by omega, ⟨rfl, rfl, rfl, rfl, rfl, iv (by omega), rfl⟩, rfl, bxR (by rw [st, List.length_append, List.length_append, tl]; rfl), rwEq (by rw [st, List.map_append]; rfl), trivial⟩
      · rw [if_neg hp, List.append_nil] at st
        generalize popc (x.getD i 0) = w at *
        clear bn bs bl pz sz fc
        repeat' (first | refine wG ?_ | refine wC c ?_ | refine rgK 8 6 [9] ?_ | refine rg 16 9 ?_ | refine wR ?_ | refine wS ?_ ?_ <;> intro _ | refine finG ?_)
        exact ⟨i + 1, by omega, by omega, ⟨rfl, rfl, rfl, rfl, rfl, iv (by omega), rfl⟩, rfl, bxR (by rw [st]), rwEq (by rw [st]), trivial⟩
    · have ei : i = x.length := by omega
      subst ei
      have e2 := bn n
      clear bn bs bl pz sz fc
      repeat' (first | refine wG ?_ | refine rgK 8 6 [9] ?_ | refine rg 16 9 ?_ | refine wR ?_ | refine wS ?_ ?_ <;> intro _ | refine finG ?_)
      exact ⟨n + 1, by omega, by omega, ⟨rfl, rfl, rfl, rfl, iv (by omega), rfl⟩, rfl, bxR (by rw [e2]), rwEq (by rw [e2]), trivial⟩
  · have en : n = 6 := by omega
    subst en
    have tl : ((B 6 0).map (facM al)).length = (B 6 0).length := List.length_map ..
    generalize (B 6 0).map (facM al) = R at *
    clear bn bs bl pz sz fc
    repeat' (first | refine stopA 17 tt ?_ | refine wG ?_ | refine rgK 8 6 [9] ?_ | refine rg 16 9 ?_ | refine wR ?_ | refine wS ?_ ?_ <;> intro _ | refine finG ?_)
    refine stopOut ?_
    refine awp_frz 71 rfl ?_
    refine awp_rebox 9 [.str s, .bool bi, rwD R] rfl rfl (LeL.cons (LeD.refl _) (LeL.cons (LeD.refl _) (LeL.cons (LeD.cutAll tl.symm) LeL.nil))) ?_
    repeat' (first | refine wG ?_ | refine rgK 8 6 [9] ?_ | refine rg 16 9 ?_ | refine wR ?_ | refine wS ?_ ?_ <;> intro _ | refine finTG ?_)
    all_goals exact leT
end Go.Proofs.Ytjooknpgcjicbaa

/-
  TermsRemove: the law's in, union, disjoint; the walk. Conditions: as each says.
-/
set_option maxHeartbeats 8000000
namespace Go.Proofs.Ytjooknpgcjicbaa
open Go.Vw
attribute [local irreducible] awp awpL awpR

def inT (R : List (List Fc)) (t : List Fc) : Bool := R.any fun r => sameF r t
theorem law10_in (R : List (List Fc)) (t : List Fc) (hR : R.length ≤ 1000) (h1 : ∀ i, (R.getD i []).length ≤ 1000) (ht : t.length ≤ 1000) : Ret Try.prog 52 [rwD R, fsD t] (· = .bool (inT R t)) := by
  have ss := fun i => ref10_SameSet (R.getD i []) t (by have := h1 i; omega) (by omega)
  unfold inT
  clear h1
  rcases find_pred [] R (fun r => sameF r t) with ⟨e0, j, hj, p1, p2⟩ | ⟨e0, p2⟩
  · rw [e0]
    clear e0
    refine ret_of_awp tab Try.func52 rfl rfl (Nat.le_of_ble_eq_true rfl) (fun w0 F0 => ?_)
    repeat' (first | refine wG ?_ | refine wR ?_ | refine wS ?_ ?_ <;> intro _ | refine finG ?_)
    refine awp_loop1 (fun (i : Nat) => ([(0, .d (rwD R)), (1, .d (fsD t)), (5, .d (.int .i64 i))], [])) (fun i => i ≤ j) (fun i => R.length - i) 0 (by omega) ⟨rfl, rfl, rfl, rfl⟩ trivial (fun i hi => ?_)
    have c := ss i
    by_cases h3 : i < j
    · have q : sameF (R.getD i []) t = false := p2 i h3
      rw [q] at c
      clear p1 p2 ss q
      repeat' (first | refine wG ?_ | refine wC c ?_ | refine wR ?_ | refine wS ?_ ?_ <;> intro _ | refine finG ?_)
      exact ⟨i + 1, by omega, by omega, ⟨rfl, rfl, iv (by omega), rfl⟩, trivial⟩
    · have e : i = j := by omega
      subst e
      have p1 : sameF (R.getD i []) t = true := p1
      rw [p1] at c
      clear p2 ss p1
      repeat' (first | refine wG ?_ | refine wC c ?_ | refine wR ?_ | refine wS ?_ ?_ <;> intro _ | refine finG ?_)
      rfl
  · rw [e0]
    clear e0
    refine ret_of_awp tab Try.func52 rfl rfl (Nat.le_of_ble_eq_true rfl) (fun w0 F0 => ?_)
    repeat' (first | refine wG ?_ | refine wR ?_ | refine wS ?_ ?_ <;> intro _ | refine finG ?_)
    refine awp_loop1 (fun (i : Nat) => ([(0, .d (rwD R)), (1, .d (fsD t)), (5, .d (.int .i64 i))], [])) (fun i => i ≤ R.length) (fun i => R.length - i) 0 (by omega) ⟨rfl, rfl, rfl, rfl⟩ trivial (fun i hi => ?_)
    by_cases h3 : i < R.length
    · have c := ss i
      have q : sameF (R.getD i []) t = false := p2 i h3
      rw [q] at c
      clear p2 ss q
      repeat' (first | refine wG ?_ | refine wC c ?_ | refine wR ?_ | refine wS ?_ ?_ <;> intro _ | refine finG ?_)
      exact ⟨i + 1, by omega, by omega, ⟨rfl, rfl, iv (by omega), rfl⟩, trivial⟩
    · have e : i = R.length := by omega
      subst e
      clear p2 ss
      repeat' (first | refine wG ?_ | refine wR ?_ | refine wS ?_ ?_ <;> intro _ | refine finG ?_)
      rfl
structure SmR (R : List (List Fc)) : Prop where
  len : R.length ≤ 1000
  row : ∀ i, (R.getD i []).length ≤ 1000
theorem law10_union (A B C : List (List Fc)) (a : SmR A) (b : SmR B) (c : SmR C) (h1 : ∀ i, i < C.length → inT A (C.getD i []) = true ∨ inT B (C.getD i []) = true) (h2 : ∀ i, i < A.length → inT C (A.getD i []) = true) (h3 : ∀ i, i < B.length → inT C (B.getD i []) = true) : Ret Try.prog 21 [rwD A, rwD B, rwD C] (· = .bool true) := by
  have i1 := fun i => law10_in A (C.getD i []) a.len a.row (c.row i)
  have i2 := fun i => law10_in B (C.getD i []) b.len b.row (c.row i)
  have i3 := fun i => law10_in C (A.getD i []) c.len c.row (a.row i)
  have i4 := fun i => law10_in C (B.getD i []) c.len c.row (b.row i)
  have la := a.len
  have lb := b.len
  have lc := c.len
  clear a b c
  refine ret_of_awp tab Try.func21 rfl rfl (Nat.le_of_ble_eq_true rfl) (fun w0 F0 => ?_)
  repeat' (first | refine wG ?_ | refine wR ?_ | refine wS ?_ ?_ <;> intro _ | refine finG ?_)
  refine awp_loop1 (fun (i : Nat) => ([(0, .d (rwD A)), (1, .d (rwD B)), (2, .d (rwD C)), (7, .d (.int .i64 i))], [])) (fun i => i ≤ C.length) (fun i => C.length - i) 0 (by omega) ⟨rfl, rfl, rfl, rfl, rfl⟩ trivial (fun i hi => ?_)
  by_cases g : i < C.length
  · have h := h1 i g
    have i1 := i1 i
    have i2 := i2 i
    generalize inT A (C.getD i []) = q1 at *
    generalize inT B (C.getD i []) = q2 at *
    clear h1 h2 h3 i3 i4
    cases q1 with
    | true =>
      repeat' (first | refine wC i1 ?_ | refine wG ?_ | refine wR ?_ | refine wS ?_ ?_ <;> intro _ | refine finG ?_)
      exact ⟨i + 1, by omega, by omega, ⟨rfl, rfl, rfl, iv (by omega), rfl⟩, trivial⟩
    | false =>
      have h : q2 = true := h.resolve_left (by decide)
      subst h
      repeat' (first | first | refine wC i1 ?_ | refine wC i2 ?_ | refine wG ?_ | refine wR ?_ | refine wS ?_ ?_ <;> intro _ | refine finG ?_)
      exact ⟨i + 1, by omega, by omega, ⟨rfl, rfl, rfl, iv (by omega), rfl⟩, trivial⟩
  have ei : i = C.length := by omega
  subst ei
  clear i1 i2 h1
  repeat' (first | refine wG ?_ | refine wR ?_ | refine wS ?_ ?_ <;> intro _ | refine finG ?_)
  refine awp_loop1 (fun (i : Nat) => ([(0, .d (rwD A)), (1, .d (rwD B)), (2, .d (rwD C)), (8, .d (.int .i64 i))], [])) (fun i => i ≤ A.length) (fun i => A.length - i) 0 (by omega) ⟨rfl, rfl, rfl, rfl, rfl⟩ trivial (fun i hi => ?_)
  by_cases g : i < A.length
  · have h := h2 i g
    have i3 := i3 i
    rw [h] at i3
    clear h2 h3 i4 h
    repeat' (first | refine wG ?_ | refine wC i3 ?_ | refine wR ?_ | refine wS ?_ ?_ <;> intro _ | refine finG ?_)
    exact ⟨i + 1, by omega, by omega, ⟨rfl, rfl, rfl, iv (by omega), rfl⟩, trivial⟩
  have ei : i = A.length := by omega
  subst ei
  clear i3 h2
  repeat' (first | refine wG ?_ | refine wR ?_ | refine wS ?_ ?_ <;> intro _ | refine finG ?_)
  refine awp_loop1 (fun (i : Nat) => ([(0, .d (rwD A)), (1, .d (rwD B)), (2, .d (rwD C)), (9, .d (.int .i64 i))], [])) (fun i => i ≤ B.length) (fun i => B.length - i) 0 (by omega) ⟨rfl, rfl, rfl, rfl, rfl⟩ trivial (fun i hi => ?_)
  by_cases g : i < B.length
  · have h := h3 i g
    have i4 := i4 i
    rw [h] at i4
    clear h3 h
    repeat' (first | refine wG ?_ | refine wC i4 ?_ | refine wR ?_ | refine wS ?_ ?_ <;> intro _ | refine finG ?_)
    exact ⟨i + 1, by omega, by omega, ⟨rfl, rfl, rfl, iv (by omega), rfl⟩, trivial⟩
  have ei : i = B.length := by omega
  subst ei
  clear i4 h3
  repeat' (first | refine wG ?_ | refine wR ?_ | refine wS ?_ ?_ <;> intro _ | refine finG ?_)
  rfl
theorem law10_disjoint (A B : List (List Fc)) (a : SmR A) (b : SmR B) (h1 : ∀ i, i < A.length → inT B (A.getD i []) = false) : Ret Try.prog 22 [rwD A, rwD B] (· = .bool true) := by
  have i1 := fun i => law10_in B (A.getD i []) b.len b.row (a.row i)
  have la := a.len
  clear a b
  refine ret_of_awp tab Try.func22 rfl rfl (Nat.le_of_ble_eq_true rfl) (fun w0 F0 => ?_)
  repeat' (first | refine wG ?_ | refine wR ?_ | refine wS ?_ ?_ <;> intro _ | refine finG ?_)
  refine awp_loop1 (fun (i : Nat) => ([(0, .d (rwD A)), (1, .d (rwD B)), (5, .d (.int .i64 i))], [])) (fun i => i ≤ A.length) (fun i => A.length - i) 0 (by omega) ⟨rfl, rfl, rfl, rfl⟩ trivial (fun i hi => ?_)
  by_cases g : i < A.length
  · have h := h1 i g
    have i1 := i1 i
    rw [h] at i1
    clear h1 h
    repeat' (first | refine wG ?_ | refine wC i1 ?_ | refine wR ?_ | refine wS ?_ ?_ <;> intro _ | refine finG ?_)
    exact ⟨i + 1, by omega, by omega, ⟨rfl, rfl, iv (by omega), rfl⟩, trivial⟩
  have ei : i = A.length := by omega
  subst ei
  clear i1 h1
  repeat' (first | refine wG ?_ | refine wR ?_ | refine wS ?_ ?_ <;> intro _ | refine finG ?_)
  rfl
end Go.Proofs.Ytjooknpgcjicbaa

/-
  TermsFollowLaws. Conditions: none beyond what lists can be.
-/
set_option maxHeartbeats 8000000
namespace Go.Proofs.Ytjooknpgcjicbaa
open Go.Vw
attribute [local irreducible] awp awpL awpR

theorem short_tree (s : List UInt8) (e : List Nd) (nm : List UInt8) (hn : isName nm = true) : ∃ T : Ft, T.ok ∧ T.flat.length ≤ 12 ∧ (if e.length ≤ 12 ∧ vld s e = true then e else [(1, nm, 0)]) = T.flat := by
  by_cases h : e.length ≤ 12 ∧ vld s e = true
  · rw [if_pos h]
    obtain ⟨_, ⟨T, hT, hok⟩, _⟩ := vld_of h.2
    exact ⟨T, hok, by rw [hT]; exact h.1, hT.symm⟩
  · rw [if_neg h]
    exact ⟨.leaf (1, nm, 0), .inl ⟨rfl, hn, rfl⟩, by simp [Ft.flat], rfl⟩
abbrev Jn (op : Int) (a b c : List Nd) : Prop := Ret Try.prog 19 [.int .i64 op, ndsD a, ndsD b] (· = ndsD c)
end Go.Proofs.Ytjooknpgcjicbaa

/-
  TermsRemove: the walk. Conditions: as each says.
-/
set_option maxHeartbeats 8000000
namespace Go.Proofs.Ytjooknpgcjicbaa
open Go.Vw
attribute [local irreducible] awp awpL awpR

abbrev lf4 : List Nd := [((4 : Int), ([] : List UInt8), (0 : Int))]
abbrev Sh (s : List UInt8) (e : List Nd) (nm : List UInt8) (a : List Nd) : Prop := Ret Try.prog 17 [fmD s e, .str nm] (· = ndsD a)
abbrev Ex (a : List Nd) (s : List UInt8) (q : Bool) (R : List (List Fc)) (r : Int) : Prop := Ret Try.prog 11 [fmD [121] a] (· = .tup [mdD s q R, .int .i64 r])
theorem Remove_zero (s1 s2 : List UInt8) (e1 e2 a b : List Nd) (h1 : Sh s1 e1 [97] a) (h2 : Sh s2 e2 [98] b) (lb : 0 < b.length) (hb : (b.getD 0 nd0).1 = 4) : Ret Try.prog 7 [fmD s1 e1, fmD s2 e2] (· = .bool true) := by
  have aw := law10_awake
  refine ret_of_awp tab Try.func7 rfl rfl (Nat.le_of_ble_eq_true rfl) (fun w0 F0 => ?_)
  repeat' (first | refine wG ?_ | refine wC h1 ?_ | refine wC h2 ?_ | refine wC aw ?_ | refine rg 1 3 ?_ | refine wR ?_ | refine wS ?_ ?_ <;> intro _ | refine finG ?_)
  all_goals rfl
set_option maxRecDepth 100000 in
theorem Remove_err (s1 s2 : List UInt8) (e1 e2 a b e5 e6 e0 : List Nd) (h1 : Sh s1 e1 [97] a) (h2 : Sh s2 e2 [98] b) (lb : 0 < b.length) (hb : ¬ (b.getD 0 nd0).1 = 4)
    (j5 : Jn 5 a b e5) (j6 : Jn 6 a b e6) (j0 : Jn 5 lf4 b e0)
    (t1 t2 t3 t4 : List UInt8) (q1 q2 q3 q4 : Bool) (R1 R2 R3 R4 : List (List Fc)) (r1 r2 r3 r4 : Int)
    (x1 : Ex a t1 q1 R1 r1) (x2 : Ex e5 t2 q2 R2 r2) (x3 : Ex e6 t3 q3 R3 r3) (x4 : Ret Try.prog 12 [fmD [121] e0] (· = .tup [mdD t4 q4 R4, .int .i64 r4]))
    (hr : r1 = 2 ∨ r1 = 0 ∧ r2 = 2)
    (l1 : Ret Try.prog 20 [ndsD a] (· = .int .i64 r1)) (l2 : Ret Try.prog 20 [ndsD e5] (· = .int .i64 r2)) (l3 : Ret Try.prog 20 [ndsD e6] (· = .int .i64 r3)) :
    Ret Try.prog 7 [fmD s1 e1, fmD s2 e2] (· = .bool true) := by
  have aw := law10_awake
  refine ret_of_awp tab Try.func7 rfl rfl (Nat.le_of_ble_eq_true rfl) (fun w0 F0 => ?_)
  repeat' (first | refine stopA 6 tt ?_ | refine wG ?_ | refine wC h1 ?_ | refine wC h2 ?_ | refine wC x1 ?_ | refine wC j5 ?_ | refine wC x2 ?_ | refine rg 1 3 ?_ | refine wR ?_ | refine wS ?_ ?_ <;> intro _ | refine finG ?_)
  refine stopOut ?_
  repeat' (first | refine stopA 7 tt ?_ | refine wG ?_ | refine wC j6 ?_ | refine wC x3 ?_ | refine rg 1 3 ?_ | refine wR ?_ | refine wS ?_ ?_ <;> intro _ | refine finG ?_)
  refine stopOut ?_
  repeat' (first | refine stopA 8 tt ?_ | refine wG ?_ | refine wC j0 ?_ | refine wC x4 ?_ | refine rg 1 3 ?_ | refine wR ?_ | refine wS ?_ ?_ <;> intro _ | refine finG ?_)
  refine stopOut ?_
  refine awp_slots [(5, .d (ndsD a)), (6, .d (ndsD b)), (8, .d (.int .i64 r1)), (10, .d (.int .i64 r2)), (12, .d (.int .i64 r3)), (14, .d (.int .i64 r4))] [] ⟨rfl, rfl, rfl, rfl, rfl, rfl, rfl⟩ trivial ?_
  rcases hr with rfl | ⟨rfl, rfl⟩
  · repeat' (first | refine wG ?_ | refine wC aw ?_ | refine wC l1 ?_ | refine wC j5 ?_ | refine wC l2 ?_ | refine wC j6 ?_ | refine wC l3 ?_ | refine rg 1 3 ?_ | refine wR ?_ | refine wS ?_ ?_ <;> intro _ | refine finG ?_)
    all_goals first | rfl | exact congrArg D.bool (decide_eq_true rfl)
  · repeat' (first | refine wG ?_ | refine wC aw ?_ | refine wC l1 ?_ | refine wC j5 ?_ | refine wC l2 ?_ | refine wC j6 ?_ | refine wC l3 ?_ | refine rg 1 3 ?_ | refine wR ?_ | refine wS ?_ ?_ <;> intro _ | refine finG ?_)
    all_goals first | rfl | exact congrArg D.bool (decide_eq_true rfl)
set_option maxRecDepth 100000 in
theorem Remove_ok (s1 s2 : List UInt8) (e1 e2 a b e5 e6 e0 : List Nd) (h1 : Sh s1 e1 [97] a) (h2 : Sh s2 e2 [98] b) (lb : 0 < b.length) (hb : ¬ (b.getD 0 nd0).1 = 4)
    (j5 : Jn 5 a b e5) (j6 : Jn 6 a b e6) (j0 : Jn 5 lf4 b e0)
    (t1 t2 t3 t4 : List UInt8) (q1 q4 : Bool) (R1 R2 R3 R4 : List (List Fc))
    (x1 : Ex a t1 q1 R1 0) (x2 : Ex e5 t2 (q1 || q4) R2 0) (x3 : Ex e6 t3 (q1 && !q4) R3 0) (x4 : Ret Try.prog 12 [fmD [121] e0] (· = .tup [mdD t4 q4 R4, .int .i64 0]))
    (u1 : Ret Try.prog 21 [rwD R1, rwD R4, rwD R2] (· = .bool true)) (u2 : Ret Try.prog 21 [rwD R3, rwD R4, rwD R2] (· = .bool true)) (dj : Ret Try.prog 22 [rwD R3, rwD R4] (· = .bool true)) :
    Ret Try.prog 7 [fmD s1 e1, fmD s2 e2] (· = .bool true) := by
  have aw := law10_awake
  refine ret_of_awp tab Try.func7 rfl rfl (Nat.le_of_ble_eq_true rfl) (fun w0 F0 => ?_)
  repeat' (first | refine stopA 6 tt ?_ | refine wG ?_ | refine wC h1 ?_ | refine wC h2 ?_ | refine wC x1 ?_ | refine wC j5 ?_ | refine wC x2 ?_ | refine rg 1 3 ?_ | refine wR ?_ | refine wS ?_ ?_ <;> intro _ | refine finG ?_)
  refine stopOut ?_
  repeat' (first | refine stopA 7 tt ?_ | refine wG ?_ | refine wC j6 ?_ | refine wC x3 ?_ | refine rg 1 3 ?_ | refine wR ?_ | refine wS ?_ ?_ <;> intro _ | refine finG ?_)
  refine stopOut ?_
  repeat' (first | refine stopA 10 tt ?_ | refine wG ?_ | refine wC j0 ?_ | refine wC x4 ?_ | refine rg 1 3 ?_ | refine wR ?_ | refine wS ?_ ?_ <;> intro _ | refine finG ?_)
  refine stopOut ?_
  refine awp_slots [(7, .ptr 7 0), (9, .ptr 9 0), (11, .ptr 11 0), (13, .ptr 13 0)] [(7, .box mdT [.d (.str t1), .d (.bool q1), .d (rwD R1)]), (9, .box mdT [.d (.str t2), .d (.bool (q1 || q4)), .d (rwD R2)]), (11, .box mdT [.d (.str t3), .d (.bool (q1 && !q4)), .d (rwD R3)]), (13, .box mdT [.d (.str t4), .d (.bool q4), .d (rwD R4)])] ⟨rfl, rfl, rfl, rfl, rfl⟩ ⟨rfl, rfl, rfl, rfl, trivial⟩ ?_
  clear x1 x2 x3 x4 j5 j6 j0 h1 h2
  cases q1 <;> cases q4
  all_goals
    repeat' (first | refine wG ?_ | refine wC aw ?_ | refine wC u1 ?_ | refine wC u2 ?_ | refine wC dj ?_ | refine rg 1 3 ?_ | refine wR ?_ | refine wS ?_ ?_ <;> intro _ | refine finG ?_)
    all_goals rfl
end Go.Proofs.Ytjooknpgcjicbaa

/-
  TermsRemove. Conditions: none beyond what lists can be.
-/
set_option maxHeartbeats 8000000
namespace Go.Proofs.Ytjooknpgcjicbaa
open Go.Vw
attribute [local irreducible] awp awpL awpR

theorem jn_ft' (op : Int) (a b : Ft) (h1 : a.flat.length ≤ 1000) (h2 : b.flat.length ≤ 1000) : Jn op a.flat b.flat (Ft.bi op a b).flat := law10_join op a.flat b.flat h1 h2
theorem inT_iff {al al' : List Fc} (hn : al.Nodup) (hn' : al'.Nodup) {C : List Nat} {u : Nat} : inT (C.map (facM al)) (facM al' u) = true ↔ Go.Vw.Sem al C (decM al' u) := by
  unfold inT
  rw [List.any_map, List.any_eq_true]
  constructor
  · rintro ⟨t, ht, h⟩
    exact ⟨t, ht, (sameF_inv hn hn' h).symm⟩
  · rintro ⟨t, ht, e⟩
    exact ⟨t, ht, sameF_dec hn hn' e.symm⟩
theorem sem_bySz {al : List Fc} (h64 : al.length ≤ 64) {l : List Nat} (ol : TmOk al.length l) : Go.Vw.Sem al (bySz l 6) = Go.Vw.Sem al (minusM l [0]) := by
  have key : ∀ t, t ∈ bySz l 6 ↔ t ∈ minusM l [0] := fun t => by
    rw [mem_bySz, mem_minusM]
    constructor
    · rintro ⟨h, h1, _⟩
      refine ⟨h, fun q => ?_⟩
      simp at q
      rw [q, popc_zero] at h1; omega
    · rintro ⟨h, h1⟩
      have h0 : t ≠ 0 := fun e => h1 (by simp [e])
      exact ⟨h, popcF_pos 64 t (Nat.lt_of_lt_of_le (ol.bd t h) (Nat.pow_le_pow_right (by decide) h64)) h0, (fitsM_iff.1 ol.fit).2 t h⟩
  exact funext fun f => propext ⟨fun ⟨t, ht, e⟩ => ⟨t, (key t).1 ht, e⟩, fun ⟨t, ht, e⟩ => ⟨t, (key t).2 ht, e⟩⟩
theorem smR {al : List Fc} (h64 : al.length ≤ 64) {C : List Nat} (h : C.length ≤ 1000) : SmR (C.map (facM al)) := ⟨by rw [List.length_map]; exact h, fun i => by
  rw [List.getD_eq_getElem?_getD, List.getElem?_map]
  cases C[i]? with
  | none => exact Nat.zero_le _
  | some t =>
    have := facP_len al t al.length
    rw [facP_all] at this
    show (facM al t).length ≤ 1000
    omega⟩
theorem rowsub {al al' : List Fc} (hn : al.Nodup) (hn' : al'.Nodup) {C C' : List Nat} (h : ∀ f, Go.Vw.Sem al C f → Go.Vw.Sem al' C' f) (i : Nat) (hi : i < (C.map (facM al)).length) : inT (C'.map (facM al')) ((C.map (facM al)).getD i []) = true := by
  rw [List.length_map] at hi
  rw [getD_facs hi]
  exact (inT_iff hn' hn).2 (h _ ⟨_, getD_memN hi, rfl⟩)
theorem law10_limit0 (T : Ft) (hl : T.flat.length ≤ 64) (hok : T.ok) (hal : (addT [] T).length ≤ 64) (hm : (mdM (addT [] T) [0] T).isSome = true) (hx : (exM (addT [] T) T).isSome = true) : Ret Try.prog 20 [ndsD T.flat] (· = .int .i64 0) := by
  cases h : mdM (addT [] T) [0] T with
  | none => rw [h] at hm; cases hm
  | some l =>
    have hv : vld [121] T.flat = true := by rw [vld_mk (by decide) ⟨_, rfl, hok⟩]; exact decide_eq_true hl
    have x := ref10_ExpandOk [121] T (by omega) hv hok hal l h hx
    generalize (bySz l 6).map (facM (addT [] T)) = R at *
    generalize decide (0 ∈ l) = q at *
    generalize T.flat = e at *
    clear hm hx h hok hal hv
    refine ret_of_awp tab Try.func20 rfl rfl (Nat.le_of_ble_eq_true rfl) (fun w0 F0 => ?_)
    repeat' (first | refine wG ?_ | refine wC x ?_ | refine wR ?_ | refine wS ?_ ?_ <;> intro _ | refine finG ?_)
    all_goals rfl
abbrev zL : Ft := .leaf ((4 : Int), [], 0)
theorem zL_ok : zL.ok := .inr (.inr ⟨.inr rfl, rfl, rfl⟩)
theorem own_md (al : List Fc) (B : Ft) : mdM al [0] (.bi 5 zL B) = stpM al (some []) B true := by
  show (if (5 : Int) = 5 ∨ (5 : Int) = 6 then stpM al (mdM al [0] zL) B (decide ((5 : Int) = 5)) else _) = _
  rw [if_pos (.inl rfl)]
  rfl
theorem own_some {al : List Fc} (h64 : al.length ≤ 64) {B : Ft} (hok : B.ok) (hf : facsIn al B) (h4 : B.op ≠ 4) {x : List Nat} (hx : exM al B = some x) : mdM al [0] (.bi 5 zL B) = some (plusM [] x) ∧ (exM al (.bi 5 zL B)).isSome = true := by
  have ox := exM_ok h64 B hok hf x hx
  have ft : fitsM (plusM [] x) = true := fits_sub (nodup_plusM (by simp)) (fun t ht => by
    rcases mem_plusM.1 ht with h | h
    · cases h
    · exact h) ox.fit
  constructor
  · rw [own_md, stpM_some hx, decide_eq_false h4]
    show (if fitsM (plusM [] x) then some (plusM [] x) else none) = _
    rw [if_pos ft]
  · have e : exM al (.bi 5 zL B) = fitO (opM 5 (vN al ((4 : Int), [], 0)) x) := by
      show (match exM al zL, exM al B with | some l, some m => fitO (opM 5 l m) | _, _ => none) = _
      rw [hx]; rfl
    rw [e, fitO_is]
    exact ft
theorem own_any {B : Ft} (hok : B.ok) (hl : B.flat.length ≤ 12) (h4 : B.op ≠ 4) : ∃ s q R r, Ret Try.prog 12 [fmD [121] (Ft.bi 5 zL B).flat] (· = .tup [mdD s q R, .int .i64 r]) := by
  have ok0 : (Ft.bi 5 zL B).ok := ⟨by decide, by decide, zL_ok, hok⟩
  have fl0 : (Ft.bi 5 zL B).flat.length ≤ 64 := by simp only [Ft.flat, List.length_cons, List.length_append]; simp; omega
  have hv : vld [121] (Ft.bi 5 zL B).flat = true := by rw [vld_mk (by decide) ⟨_, rfl, ok0⟩]; exact decide_eq_true fl0
  have hal : (addT [] (Ft.bi 5 zL B)).length ≤ 64 := by
    have := addT_len (Ft.bi 5 zL B) []
    simp only [List.length_nil] at this; omega
  have hal2 : addT [] (Ft.bi 5 zL B) = addT [] B := rfl
  cases hx : exM (addT [] B) B with
  | none =>
    have hm : mdM (addT [] (Ft.bi 5 zL B)) [0] (Ft.bi 5 zL B) = none := by rw [hal2, own_md, stpM_none (.inr hx)]
    exact ⟨_, _, _, _, ref10_ExpandLim [121] _ (by omega) hv ok0 hal hm⟩
  | some x =>
    obtain ⟨m1, m2⟩ := own_some (by rw [hal2] at hal; exact hal) hok (facsIn_addT B []) h4 hx
    exact ⟨_, _, _, _, ref10_ExpandOk [121] _ (by omega) hv ok0 hal _ m1 m2⟩
theorem md5 (op : Int) (h : op = 5 ∨ op = 6) (al : List Fc) (A B : Ft) : mdM al [0] (.bi op A B) = stpM al (mdM al [0] A) B (decide (op = 5)) := by
  show (if op = 5 ∨ op = 6 then _ else _) = _
  rw [if_pos h]
theorem law10_Remove (s1 s2 : List UInt8) (e1 e2 : List Nd) (l1 : e1.length ≤ maxLen) (l2 : e2.length ≤ maxLen) : Ret Try.prog 7 [fmD s1 e1, fmD s2 e2] (· = .bool true) := by
  have h1 := law10_short s1 e1 [97] l1
  have h2 := law10_short s2 e2 [98] l2
  obtain ⟨A, oA, lA, eA⟩ := short_tree s1 e1 [97] (by decide)
  obtain ⟨B, oB, lB, eB⟩ := short_tree s2 e2 [98] (by decide)
  rw [eA] at h1
  rw [eB] at h2
  clear eA eB
  obtain ⟨nb, tl, hb1, hb2⟩ := flat_head B
  have lb : 0 < B.flat.length := by rw [hb1]; simp
  have hop : (B.flat.getD 0 nd0).1 = B.op := by rw [hb1, ← hb2]; rfl
  by_cases h4 : B.op = 4
  · exact Remove_zero s1 s2 e1 e2 _ _ h1 h2 lb (by rw [hop]; exact h4)
  have hb : ¬ (B.flat.getD 0 nd0).1 = 4 := by rw [hop]; exact h4
  have ok5 : (Ft.bi 5 A B).ok := ⟨by decide, by decide, oA, oB⟩
  have ok6 : (Ft.bi 6 A B).ok := ⟨by decide, by decide, oA, oB⟩
  have ok0 : (Ft.bi 5 zL B).ok := ⟨by decide, by decide, zL_ok, oB⟩
  have fb : ∀ (op : Int) (a b : Ft), (Ft.bi op a b).flat.length = a.flat.length + b.flat.length + 1 := fun op a b => by simp only [Ft.flat, List.length_cons, List.length_append]
  have f5 : (Ft.bi 5 A B).flat.length ≤ 64 := by rw [fb]; omega
  have f6 : (Ft.bi 6 A B).flat.length ≤ 64 := by rw [fb]; omega
  have f0 : (Ft.bi 5 zL B).flat.length ≤ 64 := by rw [fb]; show 1 + _ + 1 ≤ 64; omega
  have j5 := jn_ft' 5 A B (by omega) (by omega)
  have j6 := jn_ft' 6 A B (by omega) (by omega)
  have j0 : Jn 5 lf4 B.flat (Ft.bi 5 zL B).flat := jn_ft' 5 zL B (by show 1 ≤ 1000; decide) (by omega)
  have a1 : (addT [] A).length ≤ 64 := by have := addT_len A []; simp only [List.length_nil] at this; omega
  have a2 : (addT [] (Ft.bi 5 A B)).length ≤ 64 := by have := addT_len (Ft.bi 5 A B) []; simp only [List.length_nil] at this; omega
  have a3 : (addT [] B).length ≤ 64 := by have := addT_len B []; simp only [List.length_nil] at this; omega
  have n1 : (addT [] A).Nodup := nodup_addT A (by simp)
  have n2 : (addT [] (Ft.bi 5 A B)).Nodup := nodup_addT (Ft.bi 5 A B) (by simp)
  have n3 : (addT [] B).Nodup := nodup_addT B (by simp)
  have e26 : addT [] (Ft.bi 6 A B) = addT [] (Ft.bi 5 A B) := rfl
  have e30 : addT [] (Ft.bi 5 zL B) = addT [] B := rfl
  have fi : facsIn (addT [] (Ft.bi 5 A B)) A ∧ facsIn (addT [] (Ft.bi 5 A B)) B := facsIn_addT (Ft.bi 5 A B) []
  have iA := mdM_inv n1 n2 a1 a2 A oA (facsIn_addT A []) fi.1
  have iX := exM_inv n1 n2 a1 a2 A oA (facsIn_addT A []) fi.1
  have iB := exM_inv n2 n3 a2 a3 B oB fi.2 (facsIn_addT B [])
  have m5 := md5 5 (.inl rfl) (addT [] (Ft.bi 5 A B)) A B
  have m6 := md5 6 (.inr rfl) (addT [] (Ft.bi 5 A B)) A B
  obtain ⟨sO, qO, RO, rO, xO⟩ := own_any oB lB h4
  have sf := short_fits oA lA
  rcases expand_cases oA (by omega) with ⟨hm, x1, y1⟩ | ⟨lA', C1, hm, p1, o1, z1, g1, _, x1⟩
  · -- nothing fits
    rw [hm] at iA
    have hA2 : mdM (addT [] (Ft.bi 5 A B)) [0] A = none := by
      cases q : mdM (addT [] (Ft.bi 5 A B)) [0] A with
      | none => rfl
      | some _ => rw [q] at iA; cases iA
    rcases expand_cases ok5 f5 with ⟨_, x2, y2⟩ | ⟨_, _, hm2, _⟩
    · rcases expand_cases ok6 f6 with ⟨_, x3, y3⟩ | ⟨_, _, hm3, _⟩
      · exact Remove_err s1 s2 e1 e2 _ _ _ _ _ h1 h2 lb hb j5 j6 j0 _ _ _ _ _ _ _ _ _ _ _ _ _ _ _ _ x1 x2 x3 xO (.inl rfl) y1 y2 y3
      · rw [e26, m6, stpM_none (.inl hA2)] at hm3; cases hm3
    · rw [m5, stpM_none (.inl hA2)] at hm2; cases hm2
  · rw [hm] at iA sf
    have sf := sf rfl
    have y1 := law10_limit0 A (by omega) oA a1 (by rw [hm]; rfl) sf
    rw [sf] at iX
    cases hA2 : mdM (addT [] (Ft.bi 5 A B)) [0] A with
    | none => rw [hA2] at iA; cases iA
    | some la2 =>
    cases hXA : exM (addT [] (Ft.bi 5 A B)) A with
    | none => rw [hXA] at iX; cases iX
    | some xa =>
    cases hB2 : exM (addT [] (Ft.bi 5 A B)) B with
    | none =>
      rcases expand_cases ok5 f5 with ⟨_, x2, y2⟩ | ⟨_, _, hm2, _⟩
      · rcases expand_cases ok6 f6 with ⟨_, x3, y3⟩ | ⟨_, _, hm3, _⟩
        · exact Remove_err s1 s2 e1 e2 _ _ _ _ _ h1 h2 lb hb j5 j6 j0 _ _ _ _ _ _ _ _ _ _ _ _ _ _ _ _ x1 x2 x3 xO (.inr ⟨rfl, rfl⟩) y1 y2 y3
        · rw [e26, m6, stpM_none (.inr hB2)] at hm3; cases hm3
      · rw [m5, stpM_none (.inr hB2)] at hm2; cases hm2
    | some xb =>
      rw [hA2] at m6
      have m6' : mdM (addT [] (Ft.bi 5 A B)) [0] (Ft.bi 6 A B) = some (minusM la2 xb) := by
        rw [m6, stpM_some hB2, decide_eq_false h4]; rfl
      rcases expand_cases ok6 f6 with ⟨hm3, _⟩ | ⟨l3, C3, hm3, p3, o3, z3, g3, _, x3⟩
      · rw [e26, m6'] at hm3; cases hm3
      rcases expand_cases ok5 f5 with ⟨_, x2, y2⟩ | ⟨l2', C2, hm2, p2, o2, z2, g2, _, x2⟩
      · -- only the sum is too long
        have oxa := exM_ok a2 A oA fi.1 xa hXA
        have y3 := law10_limit0 (Ft.bi 6 A B) f6 ok6 a2 (by rw [hm3]; rfl) (by
          rw [e26]
          have : exM (addT [] (Ft.bi 5 A B)) (Ft.bi 6 A B) = fitO (opM 6 xa xb) := by
            show (match exM (addT [] (Ft.bi 5 A B)) A, exM (addT [] (Ft.bi 5 A B)) B with | some l, some m => fitO (opM 6 l m) | _, _ => none) = _
            rw [hXA, hB2]
          rw [this, fitO_is]
          exact fits_sub (nodup_opM (op := 6) oxa.nd) (fun t ht => (mem_minusM.1 (show t ∈ minusM xa xb from ht)).1) oxa.fit)
        exact Remove_err s1 s2 e1 e2 _ _ _ _ _ h1 h2 lb hb j5 j6 j0 _ _ _ _ _ _ _ _ _ _ _ _ _ _ _ _ x1 x2 x3 xO (.inr ⟨rfl, rfl⟩) y1 y2 y3
      · -- all fit
        rw [hB2] at iB
        cases hB3 : exM (addT [] B) B with
        | none => rw [hB3] at iB; cases iB
        | some xo =>
          obtain ⟨q1, q2⟩ := own_some a3 oB (facsIn_addT B []) h4 hB3
          have hv0 : vld [121] (Ft.bi 5 zL B).flat = true := by rw [vld_mk (by decide) ⟨_, rfl, ok0⟩]; exact decide_eq_true f0
          have x4 := ref10_ExpandOk [121] (Ft.bi 5 zL B) (by omega) hv0 ok0 a3 (plusM [] xo) q1 q2
          obtain ⟨o4, z4⟩ := mdM_all a3 n3 (Ft.bi 5 zL B) ok0 (facsIn_addT (Ft.bi 5 zL B) []) (plusM [] xo) q1
          have w2 : mdS (Ft.bi 5 A B) = uniS (mdS A) (tS B) := by
            show apS (mdS A) (tS B) (decide (B.op = 4)) true = _
            rw [decide_eq_false h4]; rfl
          have w3 : mdS (Ft.bi 6 A B) = difS (mdS A) (tS B) := by
            show apS (mdS A) (tS B) (decide (B.op = 4)) false = _
            rw [decide_eq_false h4]; rfl
          have w4 : mdS (Ft.bi 5 zL B) = tS B := by
            show apS (apS (oneS nulS) (fun _ => False) true true) (tS B) (decide (B.op = 4)) true = _
            rw [decide_eq_false h4]
            exact fs_ext fun f => ⟨fun h => h.elim (fun h => absurd h.1 h.2) id, .inr⟩
          rw [w2] at z2
          rw [w3] at z3
          rw [w4] at z4
          have hs1 : Go.Vw.Sem (addT [] A) C1 = difS (mdS A) (oneS nulS) := by rw [sem_perm p1, sem_drop0 n1 o1.bd, z1]
          have hs2 : Go.Vw.Sem (addT [] (Ft.bi 5 A B)) C2 = difS (uniS (mdS A) (tS B)) (oneS nulS) := by rw [sem_perm p2, sem_drop0 n2 o2.bd, z2]
          have hs3 : Go.Vw.Sem (addT [] (Ft.bi 6 A B)) C3 = difS (difS (mdS A) (tS B)) (oneS nulS) := by rw [sem_perm p3, sem_drop0 (al := addT [] (Ft.bi 6 A B)) n2 o3.bd, z3]
          have hs4 : Go.Vw.Sem (addT [] B) (bySz (plusM [] xo) 6) = difS (tS B) (oneS nulS) := by rw [sem_bySz a3 o4, sem_drop0 n3 o4.bd]; rw [← z4]
          have l4 : (bySz (plusM [] xo) 6).length ≤ 1000 := by
            have := bySz_len (plusM [] xo) 6
            have := fitsM_len o4.fit
            omega
          have c1 := sem_zero n1 o1.bd
          have c2 := sem_zero n2 o2.bd
          have c3 := sem_zero n2 o3.bd
          have c4 := sem_zero n3 o4.bd
          rw [z1] at c1
          rw [z2] at c2
          rw [e26] at z3
          rw [z3] at c3
          rw [show Go.Vw.Sem (addT [] B) (plusM [] xo) = tS B from z4] at c4
          have k2 : decide (0 ∈ l2') = (decide (0 ∈ lA') || decide (0 ∈ plusM [] xo)) := by
            rw [← Bool.decide_or]; exact decide_eq_decide.2 (by rw [c1, c2, c4]; exact Iff.rfl)
          have k3 : decide (0 ∈ l3) = (decide (0 ∈ lA') && !decide (0 ∈ plusM [] xo)) := by
            rw [← decide_not, ← Bool.decide_and]; exact decide_eq_decide.2 (by rw [c1, c3, c4]; exact Iff.rfl)
          rw [k2] at x2
          rw [k3] at x3
          have M1 := smR a1 (show C1.length ≤ 1000 by omega)
          have M2 := smR a2 (show C2.length ≤ 1000 by omega)
          have M3 := smR (al := addT [] (Ft.bi 6 A B)) a2 (show C3.length ≤ 1000 by omega)
          have M4 := smR a3 l4
          refine Remove_ok s1 s2 e1 e2 _ _ _ _ _ h1 h2 lb hb j5 j6 j0 _ _ _ _ _ _ _ _ _ _ x1 x2 x3 x4 (law10_union _ _ _ M1 M4 M2 ?_ (rowsub n1 n2 ?_) (rowsub n3 n2 ?_)) (law10_union _ _ _ M3 M4 M2 ?_ (rowsub n2 n2 ?_) (rowsub n3 n2 ?_)) (law10_disjoint _ _ M3 M4 ?_)
          · intro i hi
            rw [List.length_map] at hi
            rw [getD_facs hi]
            have q : Go.Vw.Sem (addT [] (Ft.bi 5 A B)) C2 (decM (addT [] (Ft.bi 5 A B)) (C2.getD i 0)) := ⟨_, getD_memN hi, rfl⟩
            rw [hs2] at q
            rcases q.1 with h | h
            · exact .inl ((inT_iff n1 n2).2 (by rw [hs1]; exact ⟨h, q.2⟩))
            · exact .inr ((inT_iff n3 n2).2 (by show Go.Vw.Sem (addT [] B) (bySz (plusM [] xo) 6) _; rw [hs4]; exact ⟨h, q.2⟩))
          · intro f h
            rw [hs1] at h
            rw [hs2]
            exact ⟨.inl h.1, h.2⟩
          · intro f h
            rw [hs4] at h
            rw [hs2]
            exact ⟨.inr h.1, h.2⟩
          · intro i hi
            rw [List.length_map] at hi
            rw [getD_facs hi]
            have q : Go.Vw.Sem (addT [] (Ft.bi 5 A B)) C2 (decM (addT [] (Ft.bi 5 A B)) (C2.getD i 0)) := ⟨_, getD_memN hi, rfl⟩
            rw [hs2] at q
            by_cases hO : tS B (decM (addT [] (Ft.bi 5 A B)) (C2.getD i 0))
            · exact .inr ((inT_iff n3 n2).2 (by show Go.Vw.Sem (addT [] B) (bySz (plusM [] xo) 6) _; rw [hs4]; exact ⟨hO, q.2⟩))
            · exact .inl ((inT_iff n2 n2).2 (by
                show Go.Vw.Sem (addT [] (Ft.bi 6 A B)) C3 _
                rw [hs3]; exact ⟨⟨q.1.resolve_right hO, hO⟩, q.2⟩))
          · intro f h
            have h : Go.Vw.Sem (addT [] (Ft.bi 6 A B)) C3 f := h
            rw [hs3] at h
            rw [hs2]
            exact ⟨.inl h.1.1, h.2⟩
          · intro f h
            rw [hs4] at h
            rw [hs2]
            exact ⟨.inr h.1, h.2⟩
          · intro i hi
            rw [List.length_map] at hi
            rw [getD_facs hi]
            have q : Go.Vw.Sem (addT [] (Ft.bi 6 A B)) C3 (decM (addT [] (Ft.bi 6 A B)) (C3.getD i 0)) := ⟨_, getD_memN hi, rfl⟩
            rw [hs3] at q
            cases hI : inT ((bySz (plusM [] xo) 6).map (facM (addT [] (Ft.bi 5 zL B)))) (facM (addT [] (Ft.bi 6 A B)) (C3.getD i 0)) with
            | false => rfl
            | true =>
              have := (inT_iff (al := addT [] B) n3 n2).1 hI
              rw [hs4] at this
              exact absurd this.1 q.1.2
theorem remove_true (x y : vFm) (h1 : Ty.wf tFm x) (h2 : Ty.wf tFm y) : Ret Try.prog 7 [Ty.top tFm x, Ty.top tFm y] (· = .bool true) :=
  (law10_Remove x.1 y.1 (toNds x.2.1) (toNds y.2.1) (fm_wf h1).2 (fm_wf h2).2).args (LeT.cons (leFm x) (LeT.cons (leFm y) LeT.nil))
end Go.Proofs.Ytjooknpgcjicbaa
