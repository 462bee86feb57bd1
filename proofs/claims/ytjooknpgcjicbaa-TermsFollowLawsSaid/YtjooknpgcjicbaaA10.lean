/-
  Contracts of functions of the program, and the layer that they are walked with: G27 G28 G21 G22 TmL G29 G30 G31. Conditions: as each says.
-/
import Derived.Test.YtjooknpgcjicbaaA09
set_option linter.unnecessarySimpa false
/-
  The reference's steps. Conditions: as each says.
-/
set_option linter.unusedVariables false
set_option linter.unusedSimpArgs false
set_option maxHeartbeats 8000000
namespace Go.Proofs.Ytjooknpgcjicbaa
open Go.Vw
attribute [local irreducible] awp awpL awpR

theorem st_one0 (e : List Nd) (p : Nat) (al : List Fc) (n : Nd) (hn : e.getD p nd0 = n) (hp : p < e.length) (he : e.length ≤ 1000) (h5 : n.1 ≠ 5 ∧ n.1 ≠ 6) (x : List Nat) (A : Ret Try.prog 36 [ndsD e, .int .i64 p, fsD al] (· = .tup [tsD x, .bool false])) : Ret Try.prog 35 [ndsD e, .int .i64 p, fsD al] (· = .tup [tsD [], .bool false]) := by
  obtain ⟨op, s, k⟩ := n
  simp only at h5
  obtain ⟨h5, h6⟩ := h5
  refine ret_of_awp tab Try.func35 rfl rfl (Nat.le_of_ble_eq_true rfl) (fun w0 F0 => ?_)
  repeat' (first | refine stopA 2 tt ?_ | refine wG ?_ | refine wR ?_ | refine wS ?_ ?_ <;> intro _ | refine finG ?_)
  refine stopOut ?_
  refine awp_slots [(0, .d (ndsD e)), (1, .d (.int .i64 p)), (2, .d (fsD al)), (8, .ptr 8 0)] [(8, .box ndT [.d (.int .i64 op), .d (.str s), .d (.int .i64 k)])] ⟨rfl, rfl, rfl, rfl, rfl⟩ ⟨bxEq hn, trivial⟩ ?_
  repeat' (first | refine wG ?_ | refine wC A ?_ | refine wR ?_ | refine wS ?_ ?_ <;> intro _ | refine finTG ?_)
  all_goals exact leT
theorem st_one (e : List Nd) (p : Nat) (al : List Fc) (n : Nd) (hn : e.getD p nd0 = n) (hp : p < e.length) (he : e.length ≤ 1000) (h5 : n.1 ≠ 5 ∧ n.1 ≠ 6) (x : List Nat) (ox : TmOk 64 x) (A : Ret Try.prog 36 [ndsD e, .int .i64 p, fsD al] (· = .tup [tsD x, .bool true])) : Ret Try.prog 35 [ndsD e, .int .i64 p, fsD al] (· = if n.1 = 4 then .tup [tsD (minusM [0] [0]), .bool true] else .tup [tsD (plusM [0] x), .bool (fitsM (plusM [0] x))]) := by
  have lx := fitsM_len ox.fit
  have c5 := ref10_plus [0] x (by simp) (by omega)
  have c6 := ref10_minus [0] [0] (by simp) (by simp)
  have ft := ref10_fits (plusM [0] x) (by have := (plusM_le [0] x).2; simp at this; omega) ((one_ok 64).bd.plus ox.bd)
  generalize plusM [0] x = z at *
  generalize minusM [0] [0] = z2 at *
  generalize fitsM z = F at *
  clear ox
  have hn1 : (e.getD p nd0).1 = n.1 := by rw [hn]
  obtain ⟨op, s, k⟩ := n
  simp only at h5 hn1 ⊢
  obtain ⟨h5, h6⟩ := h5
  by_cases h4 : op = 4
  · subst h4
    rw [if_pos rfl]
    refine ret_of_awp tab Try.func35 rfl rfl (Nat.le_of_ble_eq_true rfl) (fun w0 F0 => ?_)
    repeat' (first | refine stopA 2 tt ?_ | refine wG ?_ | refine wR ?_ | refine wS ?_ ?_ <;> intro _ | refine finG ?_)
    refine stopOut ?_
    refine awp_slots [(0, .d (ndsD e)), (1, .d (.int .i64 p)), (2, .d (fsD al)), (8, .ptr 8 0)] [(8, .box ndT [.d (.int .i64 4), .d (.str s), .d (.int .i64 k)])] ⟨rfl, rfl, rfl, rfl, rfl⟩ ⟨bxEq hn, trivial⟩ ?_
    repeat' (first | refine wG ?_ | refine wC A ?_ | refine wC c6 ?_ | refine wR ?_ | refine wS ?_ ?_ <;> intro _ | refine finTG ?_)
    all_goals exact leT
  · rw [if_neg h4]
    refine ret_of_awp tab Try.func35 rfl rfl (Nat.le_of_ble_eq_true rfl) (fun w0 F0 => ?_)
    repeat' (first | refine stopA 2 tt ?_ | refine wG ?_ | refine wR ?_ | refine wS ?_ ?_ <;> intro _ | refine finG ?_)
    refine stopOut ?_
    refine awp_slots [(0, .d (ndsD e)), (1, .d (.int .i64 p)), (2, .d (fsD al)), (8, .ptr 8 0)] [(8, .box ndT [.d (.int .i64 op), .d (.str s), .d (.int .i64 k)])] ⟨rfl, rfl, rfl, rfl, rfl⟩ ⟨bxEq hn, trivial⟩ ?_
    repeat' (first | refine wG ?_ | refine wC A ?_ | refine wC c5 ?_ | refine wC ft ?_ | refine wR ?_ | refine wS ?_ ?_ <;> intro _ | refine finTG ?_)
    all_goals exact leT
theorem st_two0 (e : List Nd) (p : Nat) (al : List Fc) (op : Int) (hn : e.getD p nd0 = (op, ([] : List UInt8), (0 : Int))) (hp : p < e.length) (he : e.length ≤ 1000) (h5 : op = 5 ∨ op = 6) (l : List Nat) (S : Ret Try.prog 35 [ndsD e, .int .i64 ((p : Int) + 1), fsD al] (· = .tup [tsD l, .bool false])) : Ret Try.prog 35 [ndsD e, .int .i64 p, fsD al] (· = .tup [tsD [], .bool false]) := by
  refine ret_of_awp tab Try.func35 rfl rfl (Nat.le_of_ble_eq_true rfl) (fun w0 F0 => ?_)
  repeat' (first | refine stopA 2 tt ?_ | refine wG ?_ | refine wR ?_ | refine wS ?_ ?_ <;> intro _ | refine finG ?_)
  refine stopOut ?_
  refine awp_slots [(0, .d (ndsD e)), (1, .d (.int .i64 p)), (2, .d (fsD al)), (8, .ptr 8 0)] [(8, .box ndT [.d (.int .i64 op), .d (.str []), .d (.int .i64 0)])] ⟨rfl, rfl, rfl, rfl, rfl⟩ ⟨bxEq hn, trivial⟩ ?_
  repeat' (first | refine wC S ?_ | refine wG ?_ | refine wR ?_ | refine wS ?_ ?_ <;> intro _ | refine finTG ?_)
  all_goals exact leT
theorem st_two1 (e : List Nd) (p : Nat) (al : List Fc) (op : Int) (hn : e.getD p nd0 = (op, ([] : List UInt8), (0 : Int))) (hp : p < e.length) (he : e.length ≤ 1000) (h5 : op = 5 ∨ op = 6) (l x : List Nat) (m : Nat) (S : Ret Try.prog 35 [ndsD e, .int .i64 ((p : Int) + 1), fsD al] (· = .tup [tsD l, .bool true])) (en : Ret Try.prog 49 [ndsD e, .int .i64 ((p : Int) + 1)] (· = .int .i64 m)) (B : Ret Try.prog 36 [ndsD e, .int .i64 m, fsD al] (· = .tup [tsD x, .bool false])) : Ret Try.prog 35 [ndsD e, .int .i64 p, fsD al] (· = .tup [tsD [], .bool false]) := by
  refine ret_of_awp tab Try.func35 rfl rfl (Nat.le_of_ble_eq_true rfl) (fun w0 F0 => ?_)
  repeat' (first | refine stopA 2 tt ?_ | refine wG ?_ | refine wR ?_ | refine wS ?_ ?_ <;> intro _ | refine finG ?_)
  refine stopOut ?_
  refine awp_slots [(0, .d (ndsD e)), (1, .d (.int .i64 p)), (2, .d (fsD al)), (8, .ptr 8 0)] [(8, .box ndT [.d (.int .i64 op), .d (.str []), .d (.int .i64 0)])] ⟨rfl, rfl, rfl, rfl, rfl⟩ ⟨bxEq hn, trivial⟩ ?_
  repeat' (first | refine wC S ?_ | refine wG ?_ | refine wC en ?_ | refine wC B ?_ | refine wR ?_ | refine wS ?_ ?_ <;> intro _ | refine finTG ?_)
  all_goals exact leT
theorem st_two (e : List Nd) (p : Nat) (al : List Fc) (op : Int) (hn : e.getD p nd0 = (op, ([] : List UInt8), (0 : Int))) (hp : p < e.length) (he : e.length ≤ 1000) (h5 : op = 5 ∨ op = 6) (l x : List Nat) (m : Nat) (hm : m < e.length) (ol : TmOk 64 l) (ox : TmOk 64 x) (S : Ret Try.prog 35 [ndsD e, .int .i64 ((p : Int) + 1), fsD al] (· = .tup [tsD l, .bool true])) (en : Ret Try.prog 49 [ndsD e, .int .i64 ((p : Int) + 1)] (· = .int .i64 m)) (B : Ret Try.prog 36 [ndsD e, .int .i64 m, fsD al] (· = .tup [tsD x, .bool true])) (b : List Nat) (hb : b = if (e.getD m nd0).1 = 4 then [0] else x) : Ret Try.prog 35 [ndsD e, .int .i64 p, fsD al] (· = if (decide ((e.getD m nd0).1 = 4) != decide (op = 5)) = true then .tup [tsD (plusM l b), .bool (fitsM (plusM l b))] else .tup [tsD (minusM l b), .bool true]) := by
  have lx := fitsM_len ox.fit
  have ll := fitsM_len ol.fit
  have ob : TmOk 64 b := by
    rw [hb]; split
    · exact one_ok 64
    · exact ox
  have lb := fitsM_len ob.fit
  have c5 := ref10_plus l b (by omega) (by omega)
  have c6 := ref10_minus l b (by omega) (by omega)
  have ft := ref10_fits (plusM l b) (by have := (plusM_le l b).2; omega) (ol.bd.plus ob.bd)
  generalize plusM l b = z at *
  generalize minusM l b = z2 at *
  generalize fitsM z = F at *
  clear ob ol ox
  by_cases h4 : (e.getD m nd0).1 = 4
  · rw [if_pos h4] at hb
    subst hb
    rw [decide_eq_true h4]
    rcases h5 with rfl | rfl
    · rw [if_neg (by decide)]
      refine ret_of_awp tab Try.func35 rfl rfl (Nat.le_of_ble_eq_true rfl) (fun w0 F0 => ?_)
      repeat' (first | refine stopA 2 tt ?_ | refine wG ?_ | refine wR ?_ | refine wS ?_ ?_ <;> intro _ | refine finG ?_)
      refine stopOut ?_
      refine awp_slots [(0, .d (ndsD e)), (1, .d (.int .i64 p)), (2, .d (fsD al)), (8, .ptr 8 0)] [(8, .box ndT [.d (.int .i64 5), .d (.str []), .d (.int .i64 0)])] ⟨rfl, rfl, rfl, rfl, rfl⟩ ⟨bxEq hn, trivial⟩ ?_
      repeat' (first | refine wC S ?_ | refine wG ?_ | refine wC en ?_ | refine wC B ?_ | refine wC c6 ?_ | refine wR ?_ | refine wS ?_ ?_ <;> intro _ | refine finTG ?_)
      all_goals exact leT
    · rw [if_pos (by decide)]
      refine ret_of_awp tab Try.func35 rfl rfl (Nat.le_of_ble_eq_true rfl) (fun w0 F0 => ?_)
      repeat' (first | refine stopA 2 tt ?_ | refine wG ?_ | refine wR ?_ | refine wS ?_ ?_ <;> intro _ | refine finG ?_)
      refine stopOut ?_
      refine awp_slots [(0, .d (ndsD e)), (1, .d (.int .i64 p)), (2, .d (fsD al)), (8, .ptr 8 0)] [(8, .box ndT [.d (.int .i64 6), .d (.str []), .d (.int .i64 0)])] ⟨rfl, rfl, rfl, rfl, rfl⟩ ⟨bxEq hn, trivial⟩ ?_
      repeat' (first | refine wC S ?_ | refine wG ?_ | refine wC en ?_ | refine wC B ?_ | refine wC c5 ?_ | refine wC ft ?_ | refine wR ?_ | refine wS ?_ ?_ <;> intro _ | refine finTG ?_)
      all_goals exact leT
  · rw [if_neg h4] at hb
    subst hb
    rw [decide_eq_false h4]
    rcases h5 with rfl | rfl
    · rw [if_pos (by decide)]
      refine ret_of_awp tab Try.func35 rfl rfl (Nat.le_of_ble_eq_true rfl) (fun w0 F0 => ?_)
      repeat' (first | refine stopA 2 tt ?_ | refine wG ?_ | refine wR ?_ | refine wS ?_ ?_ <;> intro _ | refine finG ?_)
      refine stopOut ?_
      refine awp_slots [(0, .d (ndsD e)), (1, .d (.int .i64 p)), (2, .d (fsD al)), (8, .ptr 8 0)] [(8, .box ndT [.d (.int .i64 5), .d (.str []), .d (.int .i64 0)])] ⟨rfl, rfl, rfl, rfl, rfl⟩ ⟨bxEq hn, trivial⟩ ?_
      repeat' (first | refine wC S ?_ | refine wG ?_ | refine wC en ?_ | refine wC B ?_ | refine wC c5 ?_ | refine wC ft ?_ | refine wR ?_ | refine wS ?_ ?_ <;> intro _ | refine finTG ?_)
      all_goals exact leT
    · rw [if_neg (by decide)]
      refine ret_of_awp tab Try.func35 rfl rfl (Nat.le_of_ble_eq_true rfl) (fun w0 F0 => ?_)
      repeat' (first | refine stopA 2 tt ?_ | refine wG ?_ | refine wR ?_ | refine wS ?_ ?_ <;> intro _ | refine finG ?_)
      refine stopOut ?_
      refine awp_slots [(0, .d (ndsD e)), (1, .d (.int .i64 p)), (2, .d (fsD al)), (8, .ptr 8 0)] [(8, .box ndT [.d (.int .i64 6), .d (.str []), .d (.int .i64 0)])] ⟨rfl, rfl, rfl, rfl, rfl⟩ ⟨bxEq hn, trivial⟩ ?_
      repeat' (first | refine wC S ?_ | refine wG ?_ | refine wC en ?_ | refine wC B ?_ | refine wC c6 ?_ | refine wR ?_ | refine wS ?_ ?_ <;> intro _ | refine finTG ?_)
      all_goals exact leT
end Go.Proofs.Ytjooknpgcjicbaa

/-
  The reference's steps of a right side; what it says of one that breaks a limit. Conditions: as each says.
-/
set_option maxHeartbeats 8000000
namespace Go.Proofs.Ytjooknpgcjicbaa
open Go.Vw
attribute [local irreducible] awp awpL awpR

def SpC (e : List Nd) (p : Int) (al : List Fc) (T : Ft) : Prop := ∃ x, (∀ l, mdM al [0] T = some l → x = l) ∧ Ret Try.prog 35 [ndsD e, .int .i64 p, fsD al] (· = .tup [tsD x, .bool (mdM al [0] T).isSome])
theorem flat_head : ∀ (T : Ft), ∃ n tl, T.flat = n :: tl ∧ n.1 = T.op
  | .leaf n => ⟨n, [], rfl, rfl⟩
  | .un k a => ⟨(10, [], k), a.flat, rfl, rfl⟩
  | .bi op a b => ⟨(op, [], 0), a.flat ++ b.flat, rfl, rfl⟩
theorem sp_base {e : List Nd} {p : Nat} {al : List Fc} (hal : al.length ≤ 64) {T : Ft} (hok : T.ok) (hf : facsIn al T) (n : Nd) (hn : e.getD p nd0 = n) (h1 : n.1 = T.op) (hp : p < e.length) (he : e.length ≤ 1000) (h5 : T.op ≠ 5 ∧ T.op ≠ 6) (hm : mdM al [0] T = stpM al (some [0]) T true) (L : LsC e p al T) : SpC e p al T := by
  obtain ⟨x, hx, A⟩ := L
  unfold SpC
  rw [hm]
  cases ha : exM al T with
  | none =>
    rw [ha] at A
    have e0 : stpM al (some [0]) T true = none := by unfold stpM; rw [ha]
    rw [e0]
    exact ⟨[], fun l h => (by cases h), st_one0 e p al n hn hp he (by rw [h1]; exact h5) x A⟩
  | some l =>
    rw [ha] at A
    have := hx l ha
    subst this
    have ox := bd64 hal (exM_ok hal T hok hf x ha)
    have r := st_one e p al n hn hp he (by rw [h1]; exact h5) x ox A
    have e0 : stpM al (some [0]) T true = apM [0] x (decide (T.op = 4)) true := by unfold stpM; rw [ha]
    rw [e0]
    by_cases h4 : T.op = 4
    · rw [if_pos (by rw [h1]; exact h4)] at r
      have e1 : apM [0] x (decide (T.op = 4)) true = some (minusM [0] [0]) := by rw [decide_eq_true h4]; rfl
      rw [e1]
      exact ⟨minusM [0] [0], fun l h => (by cases h; rfl), r⟩
    · rw [if_neg (by rw [h1]; exact h4)] at r
      have e1 : apM [0] x (decide (T.op = 4)) true = if fitsM (plusM [0] x) then some (plusM [0] x) else none := by rw [decide_eq_false h4]; rfl
      rw [e1]
      refine ⟨plusM [0] x, fun l h => ?_, ?_⟩
      · split at h
        · cases h; rfl
        · cases h
      · rw [show (if fitsM (plusM [0] x) = true then some (plusM [0] x) else none).isSome = fitsM (plusM [0] x) by cases fitsM (plusM [0] x) <;> rfl]
        exact r
theorem ref10_steps (al : List Fc) (hal : al.length ≤ 64) (hnd : al.Nodup) : ∀ (T : Ft), T.ok → facsIn al T → ∀ (pre suf : List Nd), (pre ++ (T.flat ++ suf)).length ≤ 1000 → SpC (pre ++ (T.flat ++ suf)) pre.length al T
  | .leaf n, hok, hf, pre, suf, hl => by
    have L := ref10_list al hal (.leaf n) hok hf pre suf hl
    refine sp_base hal hok hf n (at_pre pre suf n) rfl (by simp [Ft.flat]) hl ?_ rfl L
    show n.1 ≠ 5 ∧ n.1 ≠ 6
    rcases hok with ⟨h, _⟩ | ⟨h, _⟩ | ⟨h, _⟩ <;> omega
  | .un k a, hok, hf, pre, suf, hl => by
    have L := ref10_list al hal (.un k a) hok hf pre suf hl
    exact sp_base hal hok hf _ (at_pre pre (a.flat ++ suf) ((10 : Int), ([] : List UInt8), k)) rfl (by simp [Ft.flat]) hl ⟨by show (10 : Int) ≠ 5; decide, by show (10 : Int) ≠ 6; decide⟩ rfl L
  | .bi op a b, hok, hf, pre, suf, hl => by
    have h5 := hok.1
    have h9 := hok.2.1
    have e1 : pre ++ ((Ft.bi op a b).flat ++ suf) = pre ++ ((op, ([] : List UInt8), (0 : Int)) :: (a.flat ++ (b.flat ++ suf))) := by simp [Ft.flat]
    have hn := at_pre pre (a.flat ++ (b.flat ++ suf)) (op, ([] : List UInt8), (0 : Int))
    rw [← e1] at hn
    have hp : pre.length < (pre ++ ((Ft.bi op a b).flat ++ suf)).length := by simp [Ft.flat]
    by_cases hop : op = 5 ∨ op = 6
    · have e0 : pre ++ ((Ft.bi op a b).flat ++ suf) = (pre ++ [(op, ([] : List UInt8), (0 : Int))]) ++ (a.flat ++ (b.flat ++ suf)) := by simp [Ft.flat]
      have e2 : pre ++ ((Ft.bi op a b).flat ++ suf) = (pre ++ ((op, ([] : List UInt8), (0 : Int)) :: a.flat)) ++ (b.flat ++ suf) := by simp [Ft.flat]
      obtain ⟨l, hl', S⟩ := ref10_steps al hal hnd a hok.2.2.1 hf.1 (pre ++ [(op, ([] : List UInt8), (0 : Int))]) (b.flat ++ suf) (by rw [← e0]; exact hl)
      obtain ⟨x, hx, B⟩ := ref10_list al hal b hok.2.2.2 hf.2 (pre ++ ((op, ([] : List UInt8), (0 : Int)) :: a.flat)) suf (by rw [← e2]; exact hl)
      have en := ref_End (pre ++ ((Ft.bi op a b).flat ++ suf)) (pre.length + 1) (by simp [Ft.flat]) hl
      have ev : endI (pre ++ ((Ft.bi op a b).flat ++ suf)) (pre.length + 1) 1 = ((pre.length + 1 + a.flat.length : Nat) : Int) := by
        have := endI_at hok.2.2.1 (pre ++ [(op, ([] : List UInt8), (0 : Int))]) (b.flat ++ suf)
        rw [← e0, List.length_append, List.length_singleton] at this
        rw [this]; omega
      rw [ev] at en
      obtain ⟨nb, tl, hb1, hb2⟩ := flat_head b
      have hq : (pre ++ ((Ft.bi op a b).flat ++ suf)).getD (pre.length + 1 + a.flat.length) nd0 = nb := by
        have := at_pre (pre ++ ((op, ([] : List UInt8), (0 : Int)) :: a.flat)) (tl ++ suf) nb
        rw [← List.cons_append, ← hb1, ← e2, List.length_append, List.length_cons] at this
        rw [show pre.length + 1 + a.flat.length = pre.length + (a.flat.length + 1) by omega]
        exact this
      have hm : pre.length + 1 + a.flat.length < (pre ++ ((Ft.bi op a b).flat ++ suf)).length := by
        rw [e2, hb1]; simp; omega
      rw [← e0, List.length_append, List.length_singleton] at S
      rw [← e2, List.length_append, List.length_cons, show pre.length + (a.flat.length + 1) = pre.length + 1 + a.flat.length by omega] at B
      have S : Ret Try.prog 35 [ndsD (pre ++ ((Ft.bi op a b).flat ++ suf)), .int .i64 ((pre.length : Int) + 1), fsD al] (· = .tup [tsD l, .bool (mdM al [0] a).isSome]) := S
      have en : Ret Try.prog 49 [ndsD (pre ++ ((Ft.bi op a b).flat ++ suf)), .int .i64 ((pre.length : Int) + 1)] (· = .int .i64 ((pre.length + 1 + a.flat.length : Nat) : Int)) := en
      unfold SpC
      have em : mdM al [0] (.bi op a b) = stpM al (mdM al [0] a) b (decide (op = 5)) := by
        show (if op = 5 ∨ op = 6 then _ else _) = _
        rw [if_pos hop]
      rw [em]
      clear ev e0 e1 e2 em
      generalize pre ++ ((Ft.bi op a b).flat ++ suf) = e at *
      generalize pre.length + 1 + a.flat.length = m at *
      cases ha : mdM al [0] a with
      | none =>
        rw [ha] at S
        exact ⟨[], fun l h => (by cases h), st_two0 e pre.length al op hn hp hl hop l S⟩
      | some l0 =>
        rw [ha] at S
        have := hl' l0 ha
        subst this
        cases hb : exM al b with
        | none =>
          rw [hb] at B
          have e0 : stpM al (some l) b (decide (op = 5)) = none := by unfold stpM; rw [hb]
          rw [e0]
          exact ⟨[], fun l h => (by cases h), st_two1 e pre.length al op hn hp hl hop l x m S en B⟩
        | some x0 =>
          rw [hb] at B
          have := hx x0 hb
          subst this
          have ol := bd64 hal (mdM_all hal hnd a hok.2.2.1 hf.1 l ha).1
          have ox := bd64 hal (exM_ok hal b hok.2.2.2 hf.2 x hb)
          have r := st_two e pre.length al op hn hp hl hop l x m hm ol ox S en B _ rfl
          rw [hq, hb2] at r
          have e0 : stpM al (some l) b (decide (op = 5)) = apM l x (decide (b.op = 4)) (decide (op = 5)) := by unfold stpM; rw [hb]
          rw [e0]
          unfold apM
          simp only [decide_eq_true_eq]
          generalize (if b.op = 4 then [0] else x) = bb at *
          by_cases hz : (decide (b.op = 4) != decide (op = 5)) = true
          · rw [if_pos hz] at r ⊢
            refine ⟨plusM l bb, fun q h => ?_, ?_⟩
            · split at h
              · cases h; rfl
              · cases h
            · rw [show (if fitsM (plusM l bb) = true then some (plusM l bb) else none).isSome = fitsM (plusM l bb) by cases fitsM (plusM l bb) <;> rfl]
              exact r
          · rw [if_neg hz] at r ⊢
            exact ⟨minusM l bb, fun q h => (by cases h; rfl), r⟩
    · have L := ref10_list al hal (.bi op a b) hok hf pre suf hl
      refine sp_base hal hok hf _ hn rfl hp hl ⟨fun q => hop (.inl q), fun q => hop (.inr q)⟩ ?_ L
      show (if op = 5 ∨ op = 6 then _ else _) = _
      rw [if_neg hop]
theorem ref10_ExpandLim (s : List UInt8) (T : Ft) (hl : T.flat.length ≤ 900) (h : vld s T.flat = true) (hok : T.ok) (hal : (addT [] T).length ≤ 64) (hm : mdM (addT [] T) [0] T = none) : Ret Try.prog 12 [fmD s T.flat] (· = .tup [mdD [] false [], .int .i64 2]) := by
  have v := ref_Valid s T.flat (by omega)
  rw [h] at v
  have at' := ref10_atoms T.flat (by omega)
  rw [atF_addT T hok] at at'
  obtain ⟨x, _, S⟩ := ref10_steps (addT [] T) hal (nodup_addT T (by simp)) T hok (facsIn_addT T []) [] [] (by simp; omega)
  obtain ⟨y, _, L⟩ := ref10_list (addT [] T) hal T hok (facsIn_addT T []) [] [] (by simp; omega)
  rw [hm, List.nil_append, List.append_nil] at S
  rw [List.nil_append, List.append_nil] at L
  have S : Ret Try.prog 35 [ndsD T.flat, .int .i64 0, fsD (addT [] T)] (· = .tup [tsD x, .bool false]) := S
  have L : Ret Try.prog 36 [ndsD T.flat, .int .i64 0, fsD (addT [] T)] (· = .tup [tsD y, .bool (exM (addT [] T) T).isSome]) := L
  generalize (exM (addT [] T) T).isSome = q at *
  generalize addT [] T = al at *
  generalize T.flat = e at *
  clear hm hok
  refine ret_of_awp tab Try.func12 rfl rfl (Nat.le_of_ble_eq_true rfl) (fun w0 F0 => ?_)
  repeat' (first | refine wG ?_ | refine wC v ?_ | refine wC at' ?_ | refine wC S ?_ | refine wC L ?_ | refine rgK 8 6 [9] ?_ | refine rg 16 9 ?_ | refine wR ?_ | refine wS ?_ ?_ <;> intro _ | refine finTG ?_)
  all_goals exact leT
theorem law10_limit (T : Ft) (hl : T.flat.length ≤ 900) (h : vld [121] T.flat = true) (hok : T.ok) (hal : (addT [] T).length ≤ 64) (hm : mdM (addT [] T) [0] T = none) : Ret Try.prog 20 [ndsD T.flat] (· = .int .i64 2) := by
  have x := ref10_ExpandLim [121] T hl h hok hal hm
  generalize T.flat = e at *
  clear h hok hal hm
  refine ret_of_awp tab Try.func20 rfl rfl (Nat.le_of_ble_eq_true rfl) (fun w0 F0 => ?_)
  repeat' (first | refine wG ?_ | refine wC x ?_ | refine wR ?_ | refine wS ?_ ?_ <;> intro _ | refine finG ?_)
  all_goals rfl
end Go.Proofs.Ytjooknpgcjicbaa

/-
  TermsAreValid. Conditions: none beyond what lists can be.
-/
set_option maxHeartbeats 8000000
namespace Go.Proofs.Ytjooknpgcjicbaa
open Go.Vw
attribute [local irreducible] awp awpL awpR

end Go.Proofs.Ytjooknpgcjicbaa

/-
  The law's join; models of powers. Conditions: as each says.
-/
set_option maxHeartbeats 8000000
namespace Go.Proofs.Ytjooknpgcjicbaa
open Go.Vw
attribute [local irreducible] awp awpL awpR

theorem law10_join (op : Int) (a b : List Nd) (h1 : a.length ≤ 1000) (h2 : b.length ≤ 1000) : Ret Try.prog 19 [.int .i64 op, ndsD a, ndsD b] (· = ndsD ((op, [], 0) :: (a ++ b))) := by
  have e1 : [(op, ([] : List UInt8), (0 : Int))] ++ a ++ b = (op, [], 0) :: (a ++ b) := rfl
  rw [← e1]
  refine ret_of_awp tab Try.func19 rfl rfl (Nat.le_of_ble_eq_true rfl) (fun w0 F0 => ?_)
  repeat' (first | refine stepLitO (d := 9) (en := ndC) (z := nd0) (l := [((op : Int), [], (0 : Int))]) rfl rfl rfl rfl rfl (LeR.cons rfl leL LeR.nil) ?_ | refine wG ?_ | refine wR ?_ | refine wS ?_ ?_ <;> intro _ | refine finG ?_)
  all_goals rfl
theorem ndEq2 {l m : List Nd} (h : l = m) : V.d (ndsD l) = V.d (ndsD m) := by rw [h]
end Go.Proofs.Ytjooknpgcjicbaa

/-
  Models that mean the same; the laws of the operations on sets of terms. Conditions: as each says.
-/
namespace Go.Vw
/-! ## models that mean the same -/
theorem sem_zero {al : List Fc} (hn : al.Nodup) {l : List Nat} (bl : BdM al.length l) : 0 ∈ l ↔ Sem al l nulS := by
  constructor
  · intro h; exact ⟨0, h, (decM_zero al).symm⟩
  · rintro ⟨t, ht, e⟩
    rw [← decM_zero al] at e
    have := decM_inj hn (Nat.two_pow_pos _) (bl t ht) e
    rw [this]; exact ht
theorem sem_drop0 {al : List Fc} (hn : al.Nodup) {l : List Nat} (bl : BdM al.length l) : Sem al (minusM l [0]) = difS (Sem al l) (oneS nulS) := by
  rw [sem_minus hn bl (one_ok _).bd, sem_one, decM_zero]
theorem sem_perm {al : List Fc} {l m : List Nat} (h : l.Perm m) : Sem al l = Sem al m :=
  funext fun f => propext ⟨fun ⟨t, ht, e⟩ => ⟨t, h.mem_iff.1 ht, e⟩, fun ⟨t, ht, e⟩ => ⟨t, h.mem_iff.2 ht, e⟩⟩
theorem getD_facs {al : List Fc} {C : List Nat} {i : Nat} (h : i < C.length) : (C.map (facM al)).getD i [] = facM al (C.getD i 0) := by
  rw [List.getD_eq_getElem?_getD, List.getElem?_map, List.getElem?_eq_getElem h, List.getD_eq_getElem?_getD, List.getElem?_eq_getElem h]; rfl
theorem getD_memN {C : List Nat} {i : Nat} (h : i < C.length) : C.getD i 0 ∈ C := by
  rw [List.getD_eq_getElem?_getD, List.getElem?_eq_getElem h]; exact List.getElem_mem h
theorem sameF_dec {al al' : List Fc} (hn : al.Nodup) (hn' : al'.Nodup) {t u : Nat} (h : decM al t = decM al' u) : sameF (facM al t) (facM al' u) = true := by
  have sub : ∀ x, x ∈ facM al t ↔ x ∈ facM al' u := fun x => by rw [mem_facM hn, mem_facM hn', h]
  have hle : ∀ {l m : List Fc}, l.Nodup → (∀ x, x ∈ l → x ∈ m) → l.length ≤ m.length := by
    intro l
    induction l with
    | nil => intro m _ _; exact Nat.zero_le _
    | cons a l ih =>
      intro m hl hs
      have hp := List.nodup_cons.1 hl
      have ha := hs a List.mem_cons_self
      have := ih (m := m.erase a) hp.2 fun y hy => (List.mem_erase_of_ne (fun (q : y = a) => hp.1 (q ▸ hy))).2 (hs y (List.mem_cons_of_mem _ hy))
      rw [List.length_erase_of_mem ha] at this
      have := List.length_pos_of_mem ha
      rw [List.length_cons]; omega
  unfold sameF
  rw [Bool.and_eq_true, decide_eq_true_eq, Bool.not_eq_true', List.any_eq_false]
  refine ⟨Nat.le_antisymm (hle (nodup_facM hn t) fun x hx => (sub x).1 hx) (hle (nodup_facM hn' u) fun x hx => (sub x).2 hx), fun x hx => ?_⟩
  simpa using (sub x).1 hx
theorem same_plain {al al' : List Fc} (hn : al.Nodup) (hn' : al'.Nodup) {l l' C C' : List Nat} (ol : TmOk al.length l) (ol' : TmOk al'.length l') (hC : C.Perm (minusM l [0])) (hC' : C'.Perm (minusM l' [0])) (h : Sem al l = Sem al' l') : (decide (0 ∈ l) = decide (0 ∈ l')) ∧ C.length = C'.length ∧ ∀ i, i < C.length → ∃ j, j < C'.length ∧ sameF ((C.map (facM al)).getD i []) ((C'.map (facM al')).getD j []) = true := by
  have hs : Sem al C = Sem al' C' := by rw [sem_perm hC, sem_perm hC', sem_drop0 hn ol.bd, sem_drop0 hn' ol'.bd, h]
  refine ⟨decide_eq_decide.2 ?_, ?_, ?_⟩
  · rw [sem_zero hn ol.bd, sem_zero hn' ol'.bd, h]
  · rw [hC.length_eq, hC'.length_eq]
    exact sem_len hn hn' (nodup_minusM ol.nd) (nodup_minusM ol'.nd) ol.bd.minus ol'.bd.minus (by rw [sem_drop0 hn ol.bd, sem_drop0 hn' ol'.bd, h])
  · intro i hi
    have q : Sem al C (decM al (C.getD i 0)) := ⟨_, getD_memN hi, rfl⟩
    rw [hs] at q
    obtain ⟨u, hu, e⟩ := q
    obtain ⟨j, hj, ej⟩ := List.getElem_of_mem hu
    refine ⟨j, hj, ?_⟩
    rw [getD_facs hi, getD_facs hj]
    refine sameF_dec hn hn' ?_
    rw [e, List.getD_eq_getElem?_getD, List.getElem?_eq_getElem hj, ← ej]; rfl
/-! ## laws -/
theorem fs_ext {A B : FsS} (h : ∀ f, A f ↔ B f) : A = B := funext fun f => propext (h f)
theorem prd_one (A : FsS) : prdS A (oneS nulS) = A := fs_ext fun f => ⟨fun ⟨a, b, h1, h2, e⟩ => by
  have h2 : b = nulS := h2
  subst h2
  rw [e, show (fun x => a x ∨ nulS x) = a from funext fun x => propext ⟨fun q => q.elim id (fun q => q.elim), .inl⟩]
  exact h1, fun h => ⟨f, nulS, h, rfl, funext fun x => propext ⟨.inl, fun q => q.elim id (fun q => q.elim)⟩⟩⟩
theorem uni_comm (A B : FsS) : uniS A B = uniS B A := fs_ext fun f => Or.comm
theorem prd_comm (A B : FsS) : prdS A B = prdS B A := fs_ext fun f =>
  ⟨fun ⟨a, b, h1, h2, e⟩ => ⟨b, a, h2, h1, e.trans (funext fun x => propext Or.comm)⟩, fun ⟨a, b, h1, h2, e⟩ => ⟨b, a, h2, h1, e.trans (funext fun x => propext Or.comm)⟩⟩
theorem prd_assoc (A B C : FsS) : prdS (prdS A B) C = prdS A (prdS B C) := fs_ext fun f =>
  ⟨fun ⟨_, c, ⟨a, b, h1, h2, e0⟩, h3, e⟩ => ⟨a, _, h1, ⟨b, c, h2, h3, rfl⟩, by subst e0; exact e.trans (funext fun x => propext or_assoc)⟩,
   fun ⟨a, _, h1, ⟨b, c, h2, h3, e0⟩, e⟩ => ⟨_, c, ⟨a, b, h1, h2, rfl⟩, h3, by subst e0; exact e.trans (funext fun x => propext or_assoc.symm)⟩⟩
theorem prd_uni (A B C : FsS) : prdS (uniS A B) C = uniS (prdS A C) (prdS B C) := fs_ext fun f =>
  ⟨fun ⟨a, c, h1, h2, e⟩ => h1.elim (fun h => .inl ⟨a, c, h, h2, e⟩) fun h => .inr ⟨a, c, h, h2, e⟩,
   fun h => h.elim (fun ⟨a, c, h1, h2, e⟩ => ⟨a, c, .inl h1, h2, e⟩) fun ⟨a, c, h1, h2, e⟩ => ⟨a, c, .inr h1, h2, e⟩⟩
theorem prd_uni' (A B C : FsS) : prdS C (uniS A B) = uniS (prdS C A) (prdS C B) := by rw [prd_comm, prd_uni, prd_comm A, prd_comm B]
theorem str_comm (A B : FsS) : strS A B = strS B A := by unfold strS; rw [uni_comm A B, prd_comm A B]
theorem str_assoc (A B C : FsS) : strS (strS A B) C = strS A (strS B C) := by
  unfold strS
  simp only [prd_uni, prd_uni', prd_assoc]
  refine fs_ext fun f => ?_
  simp only [uniS]
  generalize prdS A B f = ab
  generalize prdS A C f = ac
  generalize prdS B C f = bc
  generalize prdS A (prdS B C) f = abc
  generalize A f = a
  generalize B f = b
  generalize C f = c
  simp only [or_assoc, or_comm, or_left_comm]
theorem big_one (a : Fs) : bigS (oneS a) = a := funext fun x => propext ⟨fun ⟨b, h1, h2⟩ => by
  have h1 : b = a := h1
  rw [← h1]; exact h2, fun h => ⟨a, rfl, h⟩⟩
end Go.Vw

/-
  The law's same, agree and short. Conditions: as each says.
-/
set_option maxHeartbeats 8000000
namespace Go.Proofs.Ytjooknpgcjicbaa
open Go.Vw
attribute [local irreducible] awp awpL awpR

theorem law10_same (s s' : List UInt8) (b : Bool) (R R' : List (List Fc)) (hR : R.length ≤ 1000) (h0 : R.length = R'.length) (h1 : ∀ i, (R.getD i []).length ≤ 1000) (h2 : ∀ i, (R'.getD i []).length ≤ 1000) (h : ∀ i, i < R.length → ∃ j, j < R'.length ∧ sameF (R.getD i []) (R'.getD j []) = true) : Ret Try.prog 51 [mdD s b R, mdD s' b R'] (· = .bool true) := by
  have ss := fun i j => ref10_SameSet (R.getD i []) (R'.getD j []) (by have := h1 i; omega) (by have := h2 j; omega)
  clear h1 h2
  refine ret_of_awp tab Try.func51 rfl rfl (Nat.le_of_ble_eq_true rfl) (fun w0 F0 => ?_)
  repeat' (first | refine wG ?_ | refine rg 10 12 ?_ | refine wR ?_ | refine wS ?_ ?_ <;> intro _ | refine finG ?_)
  refine awp_loop1 (fun (i : Nat) => ([(2, .ptr 2 0), (3, .ptr 3 0), (5, .d (.int .i64 i))], [(2, .box mdT [.d (.str s), .d (.bool b), .d (rwD R)]), (3, .box mdT [.d (.str s'), .d (.bool b), .d (rwD R')])])) (fun i => i ≤ R.length) (fun i => R.length - i) 0 (by omega) ⟨rfl, rfl, rfl, rfl⟩ ⟨rfl, rfl, trivial⟩ (fun i hi => ?_)
  by_cases g : i < R.length
  · obtain ⟨j0, hj0, hs⟩ := h i g
    have ss := ss i
    clear h
    repeat' (first | refine wG ?_ | refine rg 10 12 ?_ | refine wR ?_ | refine wS ?_ ?_ <;> intro _ | refine finG ?_)
    refine awp_loop2 (fun (j : Nat) (f : Bool) => ([(2, .ptr 2 0), (3, .ptr 3 0), (5, .d (.int .i64 i)), (6, .d (.bool f)), (7, .d (.int .i64 j))], [(2, .box mdT [.d (.str s), .d (.bool b), .d (rwD R)]), (3, .box mdT [.d (.str s'), .d (.bool b), .d (rwD R')])])) (fun j f => j ≤ R'.length ∧ (j0 < j → f = true)) (fun j f => R'.length - j) 0 false ⟨by omega, fun h => by omega⟩ ⟨rfl, rfl, rfl, rfl, rfl, rfl⟩ ⟨rfl, rfl, trivial⟩ (fun j f hj => ?_)
    obtain ⟨j1, j2⟩ := hj
    by_cases g3 : j < R'.length
    · cases f with
      | true =>
        clear j2 hs ss
        repeat' (first | refine wG ?_ | refine rg 10 12 ?_ | refine wR ?_ | refine wS ?_ ?_ <;> intro _ | refine finG ?_)
        exact ⟨j + 1, true, ⟨by omega, fun _ => rfl⟩, by omega, ⟨rfl, rfl, rfl, rfl, iv (by omega), rfl⟩, rfl, rfl, trivial⟩
      | false =>
        have nj : ¬ j0 < j := fun h => by cases j2 h
        have c := ss j
        have fin : j0 < j + 1 → sameF (R.getD i []) (R'.getD j []) = true := fun q => by
          rw [show j = j0 by omega]; exact hs
        generalize sameF (R.getD i []) (R'.getD j []) = w at *
        clear hs ss j2
        repeat' (first | refine wG ?_ | refine wC c ?_ | refine rg 10 12 ?_ | refine wR ?_ | refine wS ?_ ?_ <;> intro _ | refine finG ?_)
        exact ⟨j + 1, w, ⟨by omega, fin⟩, by omega, ⟨rfl, rfl, rfl, rfl, iv (by omega), rfl⟩, rfl, rfl, trivial⟩
    · have ef : f = true := j2 (by omega)
      subst ef
      have ej : j = R'.length := by omega
      subst ej
      clear hs ss j2
      repeat' (first | refine wG ?_ | refine rg 10 12 ?_ | refine wR ?_ | refine wS ?_ ?_ <;> intro _ | refine finG ?_)
      exact ⟨i + 1, by omega, by omega, ⟨rfl, rfl, iv (by omega), rfl⟩, rfl, rfl, trivial⟩
  · have ei : i = R.length := by omega
    subst ei
    clear h ss
    repeat' (first | refine wG ?_ | refine rg 10 12 ?_ | refine wR ?_ | refine wS ?_ ?_ <;> intro _ | refine finG ?_)
    all_goals rfl
theorem agree_one (a b : List Nd) (s : List UInt8) (q : Bool) (R : List (List Fc)) (er : Int) (ha : Ret Try.prog 11 [fmD [121] a] (· = .tup [mdD [] false [], .int .i64 2])) (hb : Ret Try.prog 11 [fmD [121] b] (· = .tup [mdD s q R, .int .i64 er])) (hl : Ret Try.prog 20 [ndsD a] (· = .int .i64 2)) : Ret Try.prog 18 [ndsD a, ndsD b] (· = .bool true) := by
  refine ret_of_awp tab Try.func18 rfl rfl (Nat.le_of_ble_eq_true rfl) (fun w0 F0 => ?_)
  repeat' (first | refine wG ?_ | refine wC ha ?_ | refine wC hb ?_ | refine wC hl ?_ | refine wR ?_ | refine wS ?_ ?_ <;> intro _ | refine finG ?_)
  all_goals rfl
theorem agree_two (a b : List Nd) (s : List UInt8) (q : Bool) (R : List (List Fc)) (ha : Ret Try.prog 11 [fmD [121] a] (· = .tup [mdD s q R, .int .i64 0])) (hb : Ret Try.prog 11 [fmD [121] b] (· = .tup [mdD [] false [], .int .i64 2])) (hl : Ret Try.prog 20 [ndsD b] (· = .int .i64 2)) : Ret Try.prog 18 [ndsD a, ndsD b] (· = .bool true) := by
  refine ret_of_awp tab Try.func18 rfl rfl (Nat.le_of_ble_eq_true rfl) (fun w0 F0 => ?_)
  repeat' (first | refine wG ?_ | refine wC ha ?_ | refine wC hb ?_ | refine wC hl ?_ | refine wR ?_ | refine wS ?_ ?_ <;> intro _ | refine finG ?_)
  all_goals rfl
theorem agree_three (a b : List Nd) (s s' : List UInt8) (q q' : Bool) (R R' : List (List Fc)) (ha : Ret Try.prog 11 [fmD [121] a] (· = .tup [mdD s q R, .int .i64 0])) (hb : Ret Try.prog 11 [fmD [121] b] (· = .tup [mdD s' q' R', .int .i64 0])) (hs : Ret Try.prog 51 [mdD s q R, mdD s' q' R'] (· = .bool true)) : Ret Try.prog 18 [ndsD a, ndsD b] (· = .bool true) := by
  refine ret_of_awp tab Try.func18 rfl rfl (Nat.le_of_ble_eq_true rfl) (fun w0 F0 => ?_)
  repeat' (first | refine wG ?_ | refine wC ha ?_ | refine wC hb ?_ | refine wC hs ?_ | refine wR ?_ | refine wS ?_ ?_ <;> intro _ | refine finG ?_)
  all_goals rfl
theorem expand_cases {T : Ft} (hok : T.ok) (hl : T.flat.length ≤ 64) : (mdM (addT [] T) [0] T = none ∧ Ret Try.prog 11 [fmD [121] T.flat] (· = .tup [mdD [] false [], .int .i64 2]) ∧ Ret Try.prog 20 [ndsD T.flat] (· = .int .i64 2)) ∨ ∃ (l C : List Nat), mdM (addT [] T) [0] T = some l ∧ C.Perm (minusM l [0]) ∧ TmOk (addT [] T).length l ∧ Go.Vw.Sem (addT [] T) l = mdS T ∧ C.length ≤ 32 ∧ (∀ i, ((C.map (facM (addT [] T))).getD i []).length ≤ 64) ∧ Ret Try.prog 11 [fmD [121] T.flat] (· = .tup [mdD [121] (decide (0 ∈ l)) (C.map (facM (addT [] T))), .int .i64 0]) := by
  have hal : (addT [] T).length ≤ 64 := by
    have := addT_len T []
    simp at this; omega
  have hn : (addT [] T).Nodup := nodup_addT T (by simp)
  have hv : vld [121] T.flat = true := by rw [vld_mk (by decide) ⟨_, rfl, hok⟩]; exact decide_eq_true hl
  cases hm : mdM (addT [] T) [0] T with
  | none => exact .inl ⟨rfl, terms_ExpandLim [121] T.flat T (by omega) hv rfl hok hal hm, law10_limit T (by omega) hv hok hal hm⟩
  | some l =>
    obtain ⟨C, C1, C2, x⟩ := terms_ExpandOk [121] T.flat T (by omega) hv rfl hok hal l hm
    obtain ⟨ol, os⟩ := mdM_all hal hn T hok (facsIn_addT T []) l hm
    refine .inr ⟨l, C, rfl, C1, ol, os, ?_, fun i => ?_, x⟩
    · rw [C1.length_eq]
      exact Nat.le_trans (List.length_filter_le _ _) (fitsM_len ol.fit)
    · rw [List.getD_eq_getElem?_getD, List.getElem?_map]
      cases C[i]? with
      | none => exact Nat.zero_le _
      | some t =>
        have := facP_len (addT [] T) t (addT [] T).length
        rw [facP_all] at this
        show (facM (addT [] T) t).length ≤ 64
        omega
theorem law10_agree {T T' : Ft} (hok : T.ok) (hok' : T'.ok) (hl : T.flat.length ≤ 64) (hl' : T'.flat.length ≤ 64) (h : mdS T = mdS T') : Ret Try.prog 18 [ndsD T.flat, ndsD T'.flat] (· = .bool true) := by
  rcases expand_cases hok hl with ⟨_, x, y⟩ | ⟨l, C, hm, hC, ol, os, lC, fC, x⟩
  · rcases expand_cases hok' hl' with ⟨_, x', y'⟩ | ⟨l', C', hm', hC', ol', os', lC', fC', x'⟩
    · exact agree_one _ _ _ _ _ _ x x' y
    · exact agree_one _ _ _ _ _ _ x x' y
  · rcases expand_cases hok' hl' with ⟨_, x', y'⟩ | ⟨l', C', hm', hC', ol', os', lC', fC', x'⟩
    · exact agree_two _ _ _ _ _ x x' y'
    · obtain ⟨h1, h2, h3⟩ := same_plain (nodup_addT T (by simp)) (nodup_addT T' (by simp)) ol ol' hC hC' (by rw [os, os', h])
      refine agree_three _ _ _ _ _ _ _ _ x x' ?_
      rw [← h1]
      refine law10_same _ _ _ _ _ (by rw [List.length_map]; omega) (by rw [List.length_map, List.length_map]; exact h2) (fun i => by have := fC i; omega) (fun i => by have := fC' i; omega) (fun i hi => ?_)
      rw [List.length_map] at hi
      obtain ⟨j, hj, e⟩ := h3 i hi
      exact ⟨j, by rw [List.length_map]; exact hj, e⟩
theorem law10_short (s : List UInt8) (e : List Nd) (nm : List UInt8) (he : e.length ≤ maxLen) : Ret Try.prog 17 [fmD s e, .str nm] (· = ndsD (if e.length ≤ 12 ∧ vld s e = true then e else [(1, nm, 0)])) := by
  by_cases h12 : e.length ≤ 12
  · have rv := ref_Valid s e (by omega)
    cases hv : vld s e with
    | true =>
      rw [hv] at rv
      rw [if_pos ⟨h12, rfl⟩]
      refine ret_of_awp tab Try.func17 rfl rfl (Nat.le_of_ble_eq_true rfl) (fun w0 F0 => ?_)
      repeat' (first | refine wG ?_ | refine wC rv ?_ | refine wR ?_ | refine wS ?_ ?_ <;> intro _ | refine finG ?_)
      all_goals rfl
    | false =>
      rw [hv] at rv
      rw [if_neg (fun q => by cases q.2)]
      refine ret_of_awp tab Try.func17 rfl rfl (Nat.le_of_ble_eq_true rfl) (fun w0 F0 => ?_)
      repeat' (first | refine stepLitO (d := 16) (en := ndC) (z := nd0) (l := [((1 : Int), nm, (0 : Int))]) rfl rfl rfl rfl rfl (LeR.cons rfl leL LeR.nil) ?_ | refine wG ?_ | refine wC rv ?_ | refine wR ?_ | refine wS ?_ ?_ <;> intro _ | refine finG ?_)
      all_goals rfl
  · rw [if_neg (fun q => h12 q.1)]
    refine ret_of_awp tab Try.func17 rfl rfl (Nat.le_of_ble_eq_true rfl) (fun w0 F0 => ?_)
    repeat' (first | refine stepLitO (d := 16) (en := ndC) (z := nd0) (l := [((1 : Int), nm, (0 : Int))]) rfl rfl rfl rfl rfl (LeR.cons rfl leL LeR.nil) ?_ | refine wG ?_ | refine wR ?_ | refine wS ?_ ?_ <;> intro _ | refine finG ?_)
    all_goals rfl
end Go.Proofs.Ytjooknpgcjicbaa

/-
  TermsFollowLaws. Conditions: none beyond what lists can be.
-/
set_option maxHeartbeats 8000000
namespace Go.Proofs.Ytjooknpgcjicbaa
open Go.Vw
attribute [local irreducible] awp awpL awpR

theorem short_tree (s : List UInt8) (e : List Nd) (nm : List UInt8) (hn : isName nm = true) : ∃ T : Ft, T.ok ∧ T.flat.length ≤ 12 ∧ (if e.length ≤ 12 ∧ vld s e = true then e else [(1, nm, 0)]) = T.flat := by
  by_cases h : e.length ≤ 12 ∧ vld s e = true
  · rw [if_pos h]
    obtain ⟨_, ⟨T, hT, hok⟩, _⟩ := vld_of h.2
    exact ⟨T, hok, by rw [hT]; exact h.1, hT.symm⟩
  · rw [if_neg h]
    exact ⟨.leaf (1, nm, 0), .inl ⟨rfl, hn, rfl⟩, by simp [Ft.flat], rfl⟩
abbrev lf1 : List Nd := [((3 : Int), ([] : List UInt8), (0 : Int))]
abbrev lfv : List Nd := [((1 : Int), ([118] : List UInt8), (0 : Int))]
abbrev Jn (op : Int) (a b c : List Nd) : Prop := Ret Try.prog 19 [.int .i64 op, ndsD a, ndsD b] (· = ndsD c)
abbrev Ag (a b : List Nd) : Prop := Ret Try.prog 18 [ndsD a, ndsD b] (· = .bool true)
set_option maxRecDepth 100000 in
theorem FollowLaws_walk (s1 s2 s3 : List UInt8) (e1 e2 e3 a b c ab pab cab ppp L1 ba cba abc bc abc' cabc cbc cabc' pabc cac pcc L2 sb vb pvb L3 : List Nd)
    (h1 : Ret Try.prog 17 [fmD s1 e1, .str [97]] (· = ndsD a)) (h2 : Ret Try.prog 17 [fmD s2 e2, .str [98]] (· = ndsD b)) (h3 : Ret Try.prog 17 [fmD s3 e3, .str [99]] (· = ndsD c))
    (j1 : Jn 8 a b ab) (j2 : Jn 5 a b pab) (j3 : Jn 7 a b cab) (j4 : Jn 5 pab cab ppp) (j5 : Jn 7 ppp lf1 L1) (g1 : Ag ab L1)
    (j6 : Jn 8 b a ba) (g2 : Ag ab ba) (j7 : Jn 7 b a cba) (g3 : Ag cab cba)
    (j8 : Jn 8 ab c abc) (j9 : Jn 8 b c bc) (j10 : Jn 8 a bc abc') (g4 : Ag abc abc')
    (j11 : Jn 7 cab c cabc) (j12 : Jn 7 b c cbc) (j13 : Jn 7 a cbc cabc') (g5 : Ag cabc cabc')
    (j14 : Jn 7 pab c pabc) (j15 : Jn 7 a c cac) (j16 : Jn 5 cac cbc pcc) (j17 : Jn 7 pcc lf1 L2) (g6 : Ag pabc L2)
    (j18 : Jn 9 lfv b sb) (j19 : Jn 7 lfv b vb) (j20 : Jn 5 lfv vb pvb) (j21 : Jn 7 pvb lf1 L3) (g7 : Ag sb L3) :
    Ret Try.prog 6 [fmD s1 e1, fmD s2 e2, fmD s3 e3] (· = .bool true) := by
  have aw := law10_awake
  refine ret_of_awp tab Try.func6 rfl rfl (Nat.le_of_ble_eq_true rfl) (fun w0 F0 => ?_)
  repeat' (first | refine stopA 2 tt ?_ | refine wG ?_ | refine wC h1 ?_ | refine wC h2 ?_ | refine wC h3 ?_ | refine rg 1 5 ?_ | refine wR ?_ | refine wS ?_ ?_ <;> intro _ | refine finG ?_)
  refine stopOut ?_
  repeat' (first | refine stepLitO (d := 21) (en := ndC) (z := nd0) (l := lfv) rfl rfl rfl rfl rfl (LeR.cons rfl leL LeR.nil) ?_ | refine stopA 3 tt ?_ | refine wG ?_ | refine rg 1 5 ?_ | refine wR ?_ | refine wS ?_ ?_ <;> intro _ | refine finG ?_)
  refine stopOut ?_
  refine awp_frz 21 rfl ?_
  refine awp_slots [(7, .d (ndsD a)), (8, .d (ndsD b)), (9, .d (ndsD c)), (10, .d (ndsD lfv))] [] ⟨rfl, rfl, rfl, (ndEq2 (by rw [cut_zero]; rfl)), rfl⟩ trivial ?_
  repeat' (first | refine wG ?_ | refine wC aw ?_ | refine wC j1 ?_ | refine wC j2 ?_ | refine wC j3 ?_ | refine wC j4 ?_ | refine wC j5 ?_ | refine wC g1 ?_ | refine wC j6 ?_ | refine wC g2 ?_ | refine wC j7 ?_ | refine wC g3 ?_ | refine wC j8 ?_ | refine wC j9 ?_ | refine wC j10 ?_ | refine wC g4 ?_ | refine wC j11 ?_ | refine wC j12 ?_ | refine wC j13 ?_ | refine wC g5 ?_ | refine wC j14 ?_ | refine wC j15 ?_ | refine wC j16 ?_ | refine wC j17 ?_ | refine wC g6 ?_ | refine wC j18 ?_ | refine wC j19 ?_ | refine wC j20 ?_ | refine wC j21 ?_ | refine wC g7 ?_ | refine rg 1 5 ?_ | refine wR ?_ | refine wS ?_ ?_ <;> intro _ | refine finG ?_)
  all_goals rfl
end Go.Proofs.Ytjooknpgcjicbaa

/-
  TermsFollowLaws: the trees. Conditions: none beyond what lists can be.
-/
set_option maxHeartbeats 8000000
namespace Go.Proofs.Ytjooknpgcjicbaa
open Go.Vw
attribute [local irreducible] awp awpL awpR

theorem jn_ft (op : Int) (a b : Ft) (h1 : a.flat.length ≤ 1000) (h2 : b.flat.length ≤ 1000) : Jn op a.flat b.flat (Ft.bi op a b).flat := law10_join op a.flat b.flat h1 h2
theorem t5 (a b : Ft) : tS (.bi 5 a b) = uniS (tS a) (tS b) := rfl
theorem t7 (a b : Ft) : tS (.bi 7 a b) = prdS (tS a) (tS b) := rfl
theorem t8 (a b : Ft) : tS (.bi 8 a b) = strS (tS a) (tS b) := rfl
theorem t9 (a b : Ft) : tS (.bi 9 a b) = nstS (tS a) (tS b) := rfl
theorem t1 : tS (.leaf ((3 : Int), [], 0)) = oneS nulS := rfl
theorem md_ge (op : Int) (h : 7 ≤ op) (a b : Ft) : mdS (.bi op a b) = apS (oneS nulS) (tS (.bi op a b)) false true := by
  show (if op = 5 ∨ op = 6 then _ else _) = _
  rw [if_neg (by omega)]
  rfl
theorem ag_ft (o o' : Int) (a b a' b' : Ft) (h : 7 ≤ o ∧ o ≤ 9) (h' : 7 ≤ o' ∧ o' ≤ 9) (oa : a.ok) (ob : b.ok) (oa' : a'.ok) (ob' : b'.ok) (hl : a.flat.length + b.flat.length ≤ 60) (hl' : a'.flat.length + b'.flat.length ≤ 60) (ht : tS (.bi o a b) = tS (.bi o' a' b')) : Ag (Ft.bi o a b).flat (Ft.bi o' a' b').flat := by
  refine law10_agree (T := .bi o a b) (T' := .bi o' a' b') ⟨by omega, h.2, oa, ob⟩ ⟨by omega, h'.2, oa', ob'⟩ ?_ ?_ ?_
  · simp only [Ft.flat, List.length_cons, List.length_append]; omega
  · simp only [Ft.flat, List.length_cons, List.length_append]; omega
  · rw [md_ge o h.1, md_ge o' h'.1, ht]
theorem law10_FollowLaws (s1 s2 s3 : List UInt8) (e1 e2 e3 : List Nd) (l1 : e1.length ≤ maxLen) (l2 : e2.length ≤ maxLen) (l3 : e3.length ≤ maxLen) : Ret Try.prog 6 [fmD s1 e1, fmD s2 e2, fmD s3 e3] (· = .bool true) := by
  have h1 := law10_short s1 e1 [97] l1
  have h2 := law10_short s2 e2 [98] l2
  have h3 := law10_short s3 e3 [99] l3
  obtain ⟨A, oA, lA, eA⟩ := short_tree s1 e1 [97] (by decide)
  obtain ⟨B, oB, lB, eB⟩ := short_tree s2 e2 [98] (by decide)
  obtain ⟨C, oC, lC, eC⟩ := short_tree s3 e3 [99] (by decide)
  rw [eA] at h1
  rw [eB] at h2
  rw [eC] at h3
  clear eA eB eC
  have o1 : (Ft.leaf ((3 : Int), [], 0)).ok := .inr (.inr ⟨.inl rfl, rfl, rfl⟩)
  have ov : (Ft.leaf ((1 : Int), [118], 0)).ok := .inl ⟨rfl, by decide, rfl⟩
  have fl1 : (Ft.leaf ((3 : Int), [], 0)).flat.length = 1 := rfl
  have flv : (Ft.leaf ((1 : Int), [118], 0)).flat.length = 1 := rfl
  have fb : ∀ (op : Int) (a b : Ft), (Ft.bi op a b).flat.length = a.flat.length + b.flat.length + 1 := fun op a b => by simp only [Ft.flat, List.length_cons, List.length_append]
  have ok5 : ∀ (a b : Ft), a.ok → b.ok → (Ft.bi 5 a b).ok := fun a b h h' => ⟨by decide, by decide, h, h'⟩
  have ok7 : ∀ (a b : Ft), a.ok → b.ok → (Ft.bi 7 a b).ok := fun a b h h' => ⟨by decide, by decide, h, h'⟩
  have ok8 : ∀ (a b : Ft), a.ok → b.ok → (Ft.bi 8 a b).ok := fun a b h h' => ⟨by decide, by decide, h, h'⟩
  refine FollowLaws_walk s1 s2 s3 e1 e2 e3 A.flat B.flat C.flat (Ft.bi 8 A B).flat (Ft.bi 5 A B).flat (Ft.bi 7 A B).flat (Ft.bi 5 (.bi 5 A B) (.bi 7 A B)).flat (Ft.bi 7 (.bi 5 (.bi 5 A B) (.bi 7 A B)) (.leaf (3, [], 0))).flat (Ft.bi 8 B A).flat (Ft.bi 7 B A).flat (Ft.bi 8 (.bi 8 A B) C).flat (Ft.bi 8 B C).flat (Ft.bi 8 A (.bi 8 B C)).flat (Ft.bi 7 (.bi 7 A B) C).flat (Ft.bi 7 B C).flat (Ft.bi 7 A (.bi 7 B C)).flat (Ft.bi 7 (.bi 5 A B) C).flat (Ft.bi 7 A C).flat (Ft.bi 5 (.bi 7 A C) (.bi 7 B C)).flat (Ft.bi 7 (.bi 5 (.bi 7 A C) (.bi 7 B C)) (.leaf (3, [], 0))).flat (Ft.bi 9 (.leaf (1, [118], 0)) B).flat (Ft.bi 7 (.leaf (1, [118], 0)) B).flat (Ft.bi 5 (.leaf (1, [118], 0)) (.bi 7 (.leaf (1, [118], 0)) B)).flat (Ft.bi 7 (.bi 5 (.leaf (1, [118], 0)) (.bi 7 (.leaf (1, [118], 0)) B)) (.leaf (3, [], 0))).flat h1 h2 h3
    (jn_ft 8 A B ?_ ?_) (jn_ft 5 A B ?_ ?_) (jn_ft 7 A B ?_ ?_) (jn_ft 5 _ _ ?_ ?_) (jn_ft 7 _ (.leaf (3, [], 0)) ?_ ?_) (ag_ft 8 7 A B _ _ (by decide) (by decide) oA oB (ok5 _ _ (ok5 _ _ oA oB) (ok7 _ _ oA oB)) o1 ?_ ?_ ?_)
    (jn_ft 8 B A ?_ ?_) (ag_ft 8 8 A B B A (by decide) (by decide) oA oB oB oA ?_ ?_ ?_) (jn_ft 7 B A ?_ ?_) (ag_ft 7 7 A B B A (by decide) (by decide) oA oB oB oA ?_ ?_ ?_)
    (jn_ft 8 _ C ?_ ?_) (jn_ft 8 B C ?_ ?_) (jn_ft 8 A _ ?_ ?_) (ag_ft 8 8 _ C A _ (by decide) (by decide) (ok8 _ _ oA oB) oC oA (ok8 _ _ oB oC) ?_ ?_ ?_)
    (jn_ft 7 _ C ?_ ?_) (jn_ft 7 B C ?_ ?_) (jn_ft 7 A _ ?_ ?_) (ag_ft 7 7 _ C A _ (by decide) (by decide) (ok7 _ _ oA oB) oC oA (ok7 _ _ oB oC) ?_ ?_ ?_)
    (jn_ft 7 _ C ?_ ?_) (jn_ft 7 A C ?_ ?_) (jn_ft 5 _ _ ?_ ?_) (jn_ft 7 _ (.leaf (3, [], 0)) ?_ ?_) (ag_ft 7 7 _ C _ _ (by decide) (by decide) (ok5 _ _ oA oB) oC (ok5 _ _ (ok7 _ _ oA oC) (ok7 _ _ oB oC)) o1 ?_ ?_ ?_)
    (jn_ft 9 (.leaf (1, [118], 0)) B ?_ ?_) (jn_ft 7 (.leaf (1, [118], 0)) B ?_ ?_) (jn_ft 5 (.leaf (1, [118], 0)) _ ?_ ?_) (jn_ft 7 _ (.leaf (3, [], 0)) ?_ ?_) (ag_ft 9 7 _ B _ _ (by decide) (by decide) ov oB (ok5 _ _ ov (ok7 _ _ ov oB)) o1 ?_ ?_ ?_)
  all_goals first
    | (simp only [fb, fl1, flv]; omega)
    | (simp only [fl1, flv]; omega)
    | omega
    | (simp only [t5, t7, t8, t9, t1, prd_one]; done)
    | (simp only [t5, t7, t8, t9, t1, prd_one]; rfl)
    | (simp only [t7]; exact prd_comm _ _)
    | (simp only [t8]; exact str_comm _ _)
    | (simp only [t8]; exact str_assoc _ _ _)
    | (simp only [t7]; exact prd_assoc _ _ _)
    | (simp only [t5, t7, t1, prd_one]; exact prd_uni _ _ _)
    | (simp only [t5, t7, t9, t1, prd_one]; unfold nstS; rw [show tS (.leaf ((1 : Int), [118], 0)) = oneS (fun x => x = facN (1, [118], 0)) from rfl, big_one])
theorem follow_true (x y z : vFm) (h1 : Ty.wf tFm x) (h2 : Ty.wf tFm y) (h3 : Ty.wf tFm z) : Ret Try.prog 6 [Ty.top tFm x, Ty.top tFm y, Ty.top tFm z] (· = .bool true) :=
  (law10_FollowLaws x.1 y.1 z.1 (toNds x.2.1) (toNds y.2.1) (toNds z.2.1) (fm_wf h1).2 (fm_wf h2).2 (fm_wf h3).2).args (LeT.cons (leFm x) (LeT.cons (leFm y) (LeT.cons (leFm z) LeT.nil)))
end Go.Proofs.Ytjooknpgcjicbaa
