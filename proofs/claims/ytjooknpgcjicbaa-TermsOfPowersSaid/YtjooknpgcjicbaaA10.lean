/-
  Contracts of functions of the program, and the layer that they are walked with: G22. Conditions: as each says.
-/
import Derived.Test.YtjooknpgcjicbaaA09
set_option linter.unnecessarySimpa false
/-
  The law's join; models of powers. Conditions: as each says.
-/
set_option linter.unusedVariables false
set_option linter.unusedSimpArgs false
set_option maxHeartbeats 8000000
namespace Go.Proofs.Ytjooknpgcjicbaa
open Go.Vw
attribute [local irreducible] awp awpL awpR

theorem law10_join (op : Int) (a b : List Nd) (h1 : a.length ≤ 1000) (h2 : b.length ≤ 1000) : Ret Try.prog 19 [.int .i64 op, ndsD a, ndsD b] (· = ndsD ((op, [], 0) :: (a ++ b))) := by
  have e1 : [(op, ([] : List UInt8), (0 : Int))] ++ a ++ b = (op, [], 0) :: (a ++ b) := rfl
  rw [← e1]
  refine ret_of_awp tab Try.func19 rfl rfl (Nat.le_of_ble_eq_true rfl) (fun w0 F0 => ?_)
  repeat' (first | refine stepLitO (d := 9) (en := ndC) (z := nd0) (l := [((op : Int), [], (0 : Int))]) rfl rfl rfl rfl rfl (LeR.cons rfl leL LeR.nil) ?_ | refine wG ?_ | refine wR ?_ | refine wS ?_ ?_ <;> intro _ | refine finG ?_)
  all_goals rfl
def nmL : List (List UInt8) := [[97], [98], [99], [100], [101], [102]]
def sumT : Nat → Ft
  | 0 => .leaf (1, [97], 0)
  | i + 1 => .bi 5 (sumT i) (.leaf (1, nmL.getD (i + 1) [], 0))
def siz (t : Nat) : Nat → Nat
  | 0 => 0
  | i + 1 => siz t i + t / 2 ^ i % 2
def wnt (v p : Nat) : Nat → Nat
  | 0 => 0
  | s + 1 => wnt v p s + if 1 ≤ s ∧ siz s v ≤ p then 1 else 0
theorem siz_le (t : Nat) : ∀ i, siz t i ≤ i
  | 0 => Nat.le_refl _
  | i + 1 => by
    have := siz_le t i
    show siz t i + t / 2 ^ i % 2 ≤ i + 1
    have := Nat.mod_lt (t / 2 ^ i) (y := 2) (by decide)
    omega
theorem wnt_le (v p : Nat) : ∀ s, wnt v p s ≤ s
  | 0 => Nat.le_refl _
  | s + 1 => by
    have := wnt_le v p s
    show wnt v p s + (if _ then 1 else 0) ≤ s + 1
    split <;> omega
theorem sumT_len : ∀ i, (sumT i).flat.length = 2 * i + 1
  | 0 => rfl
  | i + 1 => by
    have := sumT_len i
    show ((5, [], (0 : Int)) :: ((sumT i).flat ++ [_])).length = _
    rw [List.length_cons, List.length_append, this]; simp; omega
theorem bit_and {t i : Nat} : ((((t : Int) / 2 ^ ((i : Int)).toNat).toNat &&& Int.toNat 1 : Nat) : Int) = ((t / 2 ^ i % 2 : Nat) : Int) := by
  rw [shr_nat, Int.toNat_natCast, show Int.toNat 1 = 2 ^ 1 - 1 from rfl, Nat.and_two_pow_sub_one_eq_mod]
abbrev stC (s : List UInt8) : List D := [.str s]
theorem stEq {l m : List (List UInt8)} (h : l = m) : V.d (.sl 1 stC [] l) = V.d (.sl 1 stC [] m) := by rw [h]
theorem ndEq2 {l m : List Nd} (h : l = m) : V.d (ndsD l) = V.d (ndsD m) := by rw [h]
theorem Powers_walk (n k : Int) (hn : 0 ≤ n) (hk : 0 ≤ k) (v p N W : Nat) (hv : (v : Int) = 1 + n % 6) (hp : (p : Int) = 1 + k % 6) (hN : N = 2 ^ v) (hW : wnt v p N = W) (s : List UInt8) (b : Bool) (R : List (List Fc)) (er : Int)
    (hx : Ret Try.prog 11 [fmD [121] (((10 : Int), ([] : List UInt8), (p : Int)) :: (sumT (v - 1)).flat)] (· = .tup [mdD s b R, .int .i64 er]))
    (hb : 32 < W + 1 ∧ er = 2 ∨ W + 1 ≤ 32 ∧ er = 0 ∧ b = true ∧ R.length = W ∧ Ret Try.prog 14 [mdD s b R] (· = .bool true)) :
    Ret Try.prog 8 [.int .u8 n, .int .u8 k] (· = .bool true) := by
  have aw := law10_awake
  have v6 : 1 ≤ v ∧ v ≤ 6 := by omega
  have hN64 : 2 ≤ N ∧ N ≤ 64 := by
    rw [hN]
    exact ⟨Nat.pow_le_pow_right (n := 2) (by decide) v6.1, Nat.pow_le_pow_right (n := 2) (by decide) v6.2⟩
  have hV : (v = 1 ∧ N = 2) ∨ (v = 2 ∧ N = 4) ∨ (v = 3 ∧ N = 8) ∨ (v = 4 ∧ N = 16) ∨ (v = 5 ∧ N = 32) ∨ (v = 6 ∧ N = 64) := by
    have : v = 1 ∨ v = 2 ∨ v = 3 ∨ v = 4 ∨ v = 5 ∨ v = 6 := by omega
    rcases this with h | h | h | h | h | h <;> subst h <;> subst hN <;> decide
  clear hN
  obtain ⟨E, hE⟩ : ∃ E : Nat → List Nd, ∀ i, E i = (sumT (i - 1)).flat := ⟨_, fun _ => rfl⟩
  have e1 : E 1 = [(1, [97], 0)] := by rw [hE]; rfl
  have eL : ∀ i, (E i).length ≤ 2 * i + 1 := fun i => by rw [hE, sumT_len]; omega
  have eS : ∀ i, 1 ≤ i → E (i + 1) = (5, [], 0) :: (E i ++ [(1, nmL.getD i [], 0)]) := fun i hi => by
    rw [hE, hE]
    obtain ⟨j, rfl⟩ : ∃ j, i = j + 1 := ⟨i - 1, by omega⟩
    rfl
  rw [← hE] at hx
  have nl : nmL.length = 6 := rfl
  have en : nmL = [[97], [98], [99], [100], [101], [102]] := rfl
  generalize nmL = nm at *
  clear hE
  refine ret_of_awp tab Try.func8 rfl rfl (Nat.le_of_ble_eq_true rfl) (fun w0 F0 => ?_)
  repeat' (first | refine stepLitO (d := 24) (en := stC) (z := []) (l := [[97], [98], [99], [100], [101], [102]]) rfl rfl rfl rfl rfl (LeR.cons rfl leL (LeR.cons rfl leL (LeR.cons rfl leL (LeR.cons rfl leL (LeR.cons rfl leL (LeR.cons rfl leL LeR.nil)))))) ?_ | refine stopA 3 tt ?_ | refine wG ?_ | refine wR ?_ | refine wS ?_ ?_ <;> intro _ | refine finG ?_)
  refine stopOut ?_
  refine awp_frz 24 rfl ?_
  refine awp_slots [(5, .d (.int .i64 v)), (6, .d (.int .i64 p)), (7, .d (.sl 1 stC [] nm))] [] ⟨iv (by omega), iv (by omega), (stEq (by rw [en, cut_zero]; rfl)), rfl⟩ trivial ?_
  have n0 : nm.getD 0 [] = [97] := by rw [en]; rfl
  repeat' (first | refine stepLitO (d := 29) (en := ndC) (z := nd0) (l := [((1 : Int), nm.getD 0 [], (0 : Int))]) rfl rfl rfl rfl rfl (LeR.cons rfl leL LeR.nil) ?_ | refine stopA 4 tt ?_ | refine wG ?_ | refine wR ?_ | refine wS ?_ ?_ <;> intro _ | refine finG ?_)
  refine stopOut ?_
  refine awp_frz 29 rfl ?_
  refine awp_slots [(5, .d (.int .i64 v)), (6, .d (.int .i64 p)), (7, .d (.sl 1 stC [] nm)), (8, .d (ndsD (E 1)))] [] ⟨rfl, rfl, rfl, (ndEq2 (by rw [e1, n0, cut_zero]; rfl)), rfl⟩ trivial ?_
  repeat' (first | refine wG ?_ | refine wR ?_ | refine wS ?_ ?_ <;> intro _ | refine finG ?_)
  refine awp_loop1 (fun (i : Nat) => ([(5, .d (.int .i64 v)), (6, .d (.int .i64 p)), (7, .d (.sl 1 stC [] nm)), (8, .d (ndsD (E i))), (9, .d (.int .i64 i))], [])) (fun i => 1 ≤ i ∧ i ≤ v) (fun i => v - i) 1 ⟨by omega, by omega⟩ ⟨rfl, rfl, rfl, rfl, rfl, rfl⟩ trivial (fun i hi => ?_)
  obtain ⟨i1, i2⟩ := hi
  have eLi := eL i
  by_cases g : i < v
  · have j := law10_join 5 (E i) [(1, nm.getD i [], 0)] (by omega) (by simp)
    rw [← eS i i1] at j
    clear eS hx hb aw eL hV hW
    repeat' (first | refine stepLitO (d := 41) (en := ndC) (z := nd0) (l := [((1 : Int), nm.getD i [], (0 : Int))]) rfl rfl rfl rfl rfl (LeR.cons rfl leL LeR.nil) ?_ | refine wG ?_ | refine wC j ?_ | refine wR ?_ | refine wS ?_ ?_ <;> intro _ | refine finG ?_)
    exact ⟨i + 1, ⟨by omega, by omega⟩, by omega, ⟨rfl, rfl, rfl, rfl, iv (by omega), rfl⟩, trivial⟩
  have ei : i = v := by omega
  subst ei
  clear eS eL
  repeat' (first | refine stepLitO (d := 45) (en := ndC) (z := nd0) (l := [((10 : Int), [], (p : Int))]) rfl rfl rfl rfl rfl (LeR.cons rfl leL LeR.nil) ?_ | refine stopA 9 tt ?_ | refine wG ?_ | refine wR ?_ | refine wS ?_ ?_ <;> intro _ | refine finG ?_)
  refine stopOut ?_
  refine awp_frz 45 rfl ?_
  refine awp_slots [(5, .d (.int .i64 i)), (6, .d (.int .i64 p)), (8, .d (ndsD ((10, [], (p : Int)) :: E i)))] [] ⟨rfl, rfl, (ndEq2 (by rw [cut_zero, List.take_of_length_le (Nat.le_refl _)]; rfl)), rfl⟩ trivial ?_
  repeat' (first | refine wG ?_ | refine wC hx ?_ | refine wR ?_ | refine wS ?_ ?_ <;> intro _ | refine finG ?_)
  refine awp_loop2 (fun (t w : Nat) => ([(5, .d (.int .i64 i)), (6, .d (.int .i64 p)), (10, .ptr 10 0), (11, .d (.int .i64 er)), (12, .d (.int .i64 w)), (13, .d (.int .i64 t))], [(10, .box mdT [.d (.str s), .d (.bool b), .d (rwD R)])])) (fun t w => 1 ≤ t ∧ t ≤ N ∧ w = wnt i p t) (fun t w => N - t) 1 0 ⟨by omega, by omega, rfl⟩ ⟨rfl, rfl, rfl, rfl, rfl, rfl, rfl⟩ ⟨rfl, trivial⟩ (fun t w hi => ?_)
  obtain ⟨t1, t2, t3⟩ := hi
  have wl := wnt_le i p t
  rw [← t3] at wl
  by_cases g2 : t < N
  · have wS : wnt i p (t + 1) = w + if siz t i ≤ p then 1 else 0 := by
      show wnt i p t + (if 1 ≤ t ∧ siz t i ≤ p then 1 else 0) = _
      rw [← t3]
      simp [t1]
    clear t3 hx hb aw
    repeat' (first | refine stepQ (d := 57) (C := (i < 64 ∧ lim .i64 (N : Int)) ∧ True) (x := .d (.int .i64 N)) true rfl rfl rfl rfl (by rcases hV with ⟨rfl, rfl⟩ | ⟨rfl, rfl⟩ | ⟨rfl, rfl⟩ | ⟨rfl, rfl⟩ | ⟨rfl, rfl⟩ | ⟨rfl, rfl⟩ <;> rfl) ⟨⟨by omega, by simp only [lim]; omega⟩, trivial⟩ ?_ | refine wG ?_ | refine wR ?_ | refine wS ?_ ?_ <;> intro _ | refine finG ?_)
    refine awp_loop2 (fun (q z : Nat) => ([(5, .d (.int .i64 i)), (6, .d (.int .i64 p)), (10, .ptr 10 0), (11, .d (.int .i64 er)), (12, .d (.int .i64 w)), (13, .d (.int .i64 t)), (14, .d (.int .i64 z)), (15, .d (.int .i64 q))], [(10, .box mdT [.d (.str s), .d (.bool b), .d (rwD R)])])) (fun q z => q ≤ i ∧ z = siz t q) (fun q z => i - q) 0 0 ⟨by omega, rfl⟩ ⟨rfl, rfl, rfl, rfl, rfl, rfl, rfl, rfl, rfl⟩ ⟨rfl, trivial⟩ (fun q z hq => ?_)
    obtain ⟨q1, q2⟩ := hq
    have zl := siz_le t q
    rw [← q2] at zl
    by_cases g3 : q < i
    · have sS : siz t (q + 1) = z + t / 2 ^ q % 2 := by rw [q2]; rfl
      obtain ⟨z1, z2⟩ := shr_lim (t := t) (i := q) (by omega)
      have z3 : (t : Int) / 2 ^ ((q : Int)).toNat ≤ 64 := by
        rw [shr_nat]
        have := Nat.div_le_self t (2 ^ q)
        generalize t / 2 ^ q = x at *
        omega
      have bA := bit_and (t := t) (i := q)
      have bL := Nat.mod_lt (t / 2 ^ q) (y := 2) (by decide)
      generalize t / 2 ^ q % 2 = y at *
      clear wS q2 hV hW
      repeat' (first | refine wG ?_ | refine wR ?_ | refine wS ?_ ?_ <;> intro _ | refine finG ?_)
      exact ⟨q + 1, z + y, ⟨by omega, sS.symm⟩, by omega, ⟨rfl, rfl, rfl, rfl, rfl, rfl, iv (by omega), iv (by omega), rfl⟩, rfl, trivial⟩
    · have eq : q = i := by omega
      subst eq
      by_cases g4 : z ≤ p
      · rw [← q2, if_pos g4] at wS
        clear hV hW
        repeat' (first | refine wG ?_ | refine wR ?_ | refine wS ?_ ?_ <;> intro _ | refine finG ?_)
        exact ⟨t + 1, w + 1, ⟨by omega, by omega, wS.symm⟩, by omega, ⟨rfl, rfl, rfl, rfl, iv (by omega), iv (by omega), rfl⟩, rfl, trivial⟩
      · rw [← q2, if_neg g4] at wS
        clear hV hW
        repeat' (first | refine wG ?_ | refine wR ?_ | refine wS ?_ ?_ <;> intro _ | refine finG ?_)
        exact ⟨t + 1, w, ⟨by omega, by omega, wS.symm⟩, by omega, ⟨rfl, rfl, rfl, rfl, rfl, iv (by omega), rfl⟩, rfl, trivial⟩
  · have et : t = N := by omega
    rw [et, hW] at t3
    subst t3
    rcases hb with ⟨b1, rfl⟩ | ⟨b1, rfl, rfl, b4, tv⟩
    · clear hx hW
      repeat' (first | refine stepQ (d := 57) (C := (i < 64 ∧ lim .i64 (N : Int)) ∧ True) (x := .d (.int .i64 N)) true rfl rfl rfl rfl (by rcases hV with ⟨rfl, rfl⟩ | ⟨rfl, rfl⟩ | ⟨rfl, rfl⟩ | ⟨rfl, rfl⟩ | ⟨rfl, rfl⟩ | ⟨rfl, rfl⟩ <;> rfl) ⟨⟨by omega, by simp only [lim]; omega⟩, trivial⟩ ?_ | refine wG ?_ | refine wC aw ?_ | refine wR ?_ | refine wS ?_ ?_ <;> intro _ | refine finG ?_)
      all_goals rfl
    · clear hx hW
      repeat' (first | refine stepQ (d := 57) (C := (i < 64 ∧ lim .i64 (N : Int)) ∧ True) (x := .d (.int .i64 N)) true rfl rfl rfl rfl (by rcases hV with ⟨rfl, rfl⟩ | ⟨rfl, rfl⟩ | ⟨rfl, rfl⟩ | ⟨rfl, rfl⟩ | ⟨rfl, rfl⟩ | ⟨rfl, rfl⟩ <;> rfl) ⟨⟨by omega, by simp only [lim]; omega⟩, trivial⟩ ?_ | refine wG ?_ | refine wC aw ?_ | refine wC tv ?_ | refine wR ?_ | refine wS ?_ ?_ <;> intro _ | refine finG ?_)
      all_goals rfl
def pT (v p : Nat) : Ft := .un (p : Int) (sumT (v - 1))
def chkP (v p : Nat) : Bool := match mdM (addT [] (pT v p)) [0] (pT v p) with
  | some l => decide (wnt v p (2 ^ v) + 1 ≤ 32 ∧ 0 ∈ l ∧ (minusM l [0]).length = wnt v p (2 ^ v))
  | none => decide (32 < wnt v p (2 ^ v) + 1)
theorem chkP_all : ∀ v, v < 6 → ∀ p, p < 6 → chkP (v + 1) (p + 1) = true := by decide +kernel
theorem nmL_ok : ∀ i, i < 6 → isName (nmL.getD i []) = true := by decide +kernel
theorem sumT_ok : ∀ i, i < 6 → (sumT i).ok
  | 0, _ => .inl ⟨rfl, by decide, rfl⟩
  | i + 1, h => ⟨by decide, by decide, sumT_ok i (by omega), .inl ⟨rfl, nmL_ok (i + 1) h, rfl⟩⟩
theorem sumT_al : ∀ i, i < 6 → (addT [] (sumT i)).length ≤ 6 := by decide +kernel
theorem law10_Powers (n k : Int) (hn : 0 ≤ n) (hk : 0 ≤ k) : Ret Try.prog 8 [.int .u8 n, .int .u8 k] (· = .bool true) := by
  obtain ⟨v, hv⟩ : ∃ v : Nat, (v : Int) = 1 + n % 6 := ⟨(1 + n % 6).toNat, by omega⟩
  obtain ⟨p, hp⟩ : ∃ p : Nat, (p : Int) = 1 + k % 6 := ⟨(1 + k % 6).toNat, by omega⟩
  have v6 : 1 ≤ v ∧ v ≤ 6 := by omega
  have p6 : 1 ≤ p ∧ p ≤ 6 := by omega
  have ch := chkP_all (v - 1) (by omega) (p - 1) (by omega)
  rw [show v - 1 + 1 = v by omega, show p - 1 + 1 = p by omega] at ch
  have ok := sumT_ok (v - 1) (by omega)
  have al := sumT_al (v - 1) (by omega)
  have hok : (pT v p).ok := ⟨by omega, by omega, ok⟩
  have hal : (addT [] (pT v p)).length ≤ 64 := Nat.le_trans al (by decide)
  have hn' : (addT [] (pT v p)).Nodup := nodup_addT _ (by simp)
  have hfl : (pT v p).flat = ((10 : Int), ([] : List UInt8), (p : Int)) :: (sumT (v - 1)).flat := rfl
  have hl : (pT v p).flat.length ≤ 64 := by rw [hfl, List.length_cons, sumT_len]; omega
  have hvl : vld [121] (pT v p).flat = true := by rw [vld_mk (by decide) ⟨_, rfl, hok⟩]; exact decide_eq_true hl
  unfold chkP at ch
  cases hm : mdM (addT [] (pT v p)) [0] (pT v p) with
  | none =>
    rw [hm] at ch
    have x := terms_ExpandLim [121] (pT v p).flat (pT v p) (by omega) hvl rfl hok hal hm
    rw [hfl] at x
    exact Powers_walk n k hn hk v p _ _ hv hp rfl rfl _ _ _ _ x (.inl ⟨of_decide_eq_true ch, rfl⟩)
  | some l =>
    rw [hm] at ch
    obtain ⟨c1, c2, c3⟩ := of_decide_eq_true ch
    obtain ⟨C, C1, C2, x⟩ := terms_ExpandOk [121] (pT v p).flat (pT v p) (by omega) hvl rfl hok hal l hm
    obtain ⟨ol, _⟩ := mdM_all hal hn' (pT v p) hok (facsIn_addT _ []) l hm
    have mv := model_valid hal hn' (fun y hy => addT_fOk hok hy) ol C1 C2 (s := [121]) (by decide)
    have lC : C.length ≤ 32 := by
      rw [C1.length_eq]
      exact Nat.le_trans (List.length_filter_le _ _) (fitsM_len ol.fit)
    have fl : ∀ t, (facM (addT [] (pT v p)) t).length ≤ 64 := fun t => by
      have := facP_len (addT [] (pT v p)) t (addT [] (pT v p)).length
      rw [facP_all] at this; omega
    have tv := terms_Valid [121] (decide (0 ∈ l)) (C.map (facM (addT [] (pT v p)))) (by rw [List.length_map]; omega) (fun r hr => by
      obtain ⟨t, _, rfl⟩ := List.mem_map.1 hr
      have := fl t; omega)
    rw [mv] at tv
    rw [hfl] at x
    exact Powers_walk n k hn hk v p _ _ hv hp rfl rfl _ _ _ _ x (.inr ⟨c1, rfl, decide_eq_true c2, by rw [List.length_map, C1.length_eq]; exact c3, tv⟩)
end Go.Proofs.Ytjooknpgcjicbaa
