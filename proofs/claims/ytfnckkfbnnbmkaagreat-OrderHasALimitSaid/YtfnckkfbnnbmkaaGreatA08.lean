/-
  Contracts of functions of the program, and the layer that they are walked with: N12 Contr R07 Sorts VZ W10 N18b W01 VW VX VY W03 ItvB ItvC ItvD Plots W04 W11 ItvE OrdersA W12 OrdersB. Conditions: as each says.
-/
import Derived.Deep.Slices
import Derived.Carry
import Derived.OpenShut
import Derived.WalkKit
import Derived.ProofKit
import Derived.Deep.DeepHandedRow
import Derived.Lib.LaidTab
import Derived.Test.YtfnckkfbnnbmkaaGreatA07
set_option linter.unusedVariables false
set_option linter.unusedSimpArgs false
namespace Go.Proofs.YtfnckkfbnnbmkaaGreat
open Go.Vw
attribute [local irreducible] awp awpL awpR

theorem rational_CompareQ (x y : Rat) (hx : okQ 1000000 x) (hy : okQ 1000000 y) : Ret Tryz.prog 69 [qD x, qD y] (· = .int .i64 (cmpQ x y)) := by
  have := rational_Compare (rq x) (rq y) (ok_rq hx) (ok_rq hy)
  rw [rv_rq, rv_rq] at this
  exact this
theorem rational_AddQ (x y : Rat) (hx : okQ 1000000 x) (hy : okQ 1000000 y) : Ret Tryz.prog 74 [qD x, qD y] (· = qD (x + y)) := by
  have := rational_Add (rq x) (rq y) (ok_rq hx) (ok_rq hy)
  rw [rv_rq, rv_rq] at this
  exact this
theorem rational_SubQ (x y : Rat) (hx : okQ 1000000 x) (hy : okQ 1000000 y) : Ret Tryz.prog 115 [qD x, qD y] (· = qD (x - y)) := by
  have := rational_Sub (rq x) (rq y) (ok_rq hx) (ok_rq hy)
  rw [rv_rq, rv_rq] at this
  exact this
theorem rational_MulQ (x y : Rat) (hx : okQ 1000000 x) (hy : okQ 1000000 y) : Ret Tryz.prog 71 [qD x, qD y] (· = qD (x * y)) := by
  have := rational_Mul (rq x) (rq y) (ok_rq hx) (ok_rq hy)
  rw [rv_rq, rv_rq] at this
  exact this
theorem rational_DivQ (x y : Rat) (hx : okQ 1000000 x) (hy : okQ 1000000 y) : Ret Tryz.prog 100 [qD x, qD y] (· = if y = 0 then .tup [rD r0, .int .i64 5] else .tup [qD (x / y), .int .i64 0]) := by
  have := rational_Div (rq x) (rq y) (ok_rq hx) (ok_rq hy)
  rw [rv_rq, rv_rq] at this
  exact this
theorem rational_FloorQ (x : Rat) (hx : okQ 1000000 x) : Ret Tryz.prog 73 [qD x] (· = zD x.floor) := by
  have := rational_Floor (rq x) (ok_rq hx)
  rw [rv_rq] at this
  exact this
theorem rational_SignQ (x : Rat) (hx : okQ 1000000 x) : Ret Tryz.prog 68 [qD x] (· = .int .i64 x.num.sign) := by
  have := rational_Sign (rq x) (ok_rq hx)
  rw [rv_rq] at this
  exact this
theorem ref03_SubQ (x y : Rat) (hx : okQ 1000000 x) (hy : okQ 1000000 y) : Ret Tryz.prog 18 [qD x, qD y] (· = qD (x - y)) := by
  have := ref03_Sub (rq x) (rq y) (ok_rq hx) (ok_rq hy)
  rw [rv_rq, rv_rq] at this
  exact this
theorem ref03_CompareQ (x y : Rat) (hx : okQ 100000 x) (hy : okQ 100000 y) : Ret Tryz.prog 64 [qD x, qD y] (· = .int .i64 (cmpQ x y)) := by
  have := ref03_Compare (rq x) (rq y) (ok_rq hx) (ok_rq hy)
  rw [rv_rq, rv_rq] at this
  exact this
theorem ref03_LessQ (x y : Rat) (hx : okQ 100000 x) (hy : okQ 100000 y) : Ret Tryz.prog 22 [qD x, qD y] (· = .bool (decide (x < y))) := by
  have := ref03_Less (rq x) (rq y) (ok_rq hx) (ok_rq hy)
  rw [rv_rq, rv_rq] at this
  exact this
theorem ref03_FloorQ (x : Rat) (hx : okQ 1000000 x) : Ret Tryz.prog 85 [qD x] (· = zD x.floor) := by
  have := ref03_Floor (rq x) (ok_rq hx)
  rw [rv_rq] at this
  exact this
end Go.Proofs.YtfnckkfbnnbmkaaGreat

/-
  What the matrices of the codings hold. Conditions: as each says.
-/
set_option linter.unusedVariables false
namespace Go.Vw
def codingOk (c n : Int) : Bool := decide (1 ≤ c) && decide (c ≤ 4) && decide (1 ≤ n) && decide (n ≤ 32)
def colsZ (c n : Int) : Int := if c = 4 then n else n - 1
def entryZ (c n i j : Int) : Int :=
  if c = 4 then (if i = j then 1 else 0)
  else if c = 1 then (if i = j + 1 then 1 else 0)
  else if c = 2 then (if i = n - 1 then -1 else if i = j then 1 else 0)
  else (if i ≤ j then -1 else if i = j + 1 then j + 1 else 0)
def rowZ (c n : Int) (i k : Nat) : List R3 := (List.range k).map fun j => zR (entryZ c n i (j : Nat))
def matZ (c n : Int) (k : Nat) : List (List R3) := (List.range k).map fun i => rowZ c n i (colsZ c n).toNat
theorem rowZ_length (c n : Int) (i k : Nat) : (rowZ c n i k).length = k := by simp [rowZ]
theorem matZ_length (c n : Int) (k : Nat) : (matZ c n k).length = k := by simp [matZ]
theorem rowZ_succ (c n : Int) (i k : Nat) : rowZ c n i (k + 1) = rowZ c n i k ++ [zR (entryZ c n i (k : Nat))] := by simp [rowZ, List.range_succ]
theorem matZ_succ (c n : Int) (k : Nat) : matZ c n (k + 1) = matZ c n k ++ [rowZ c n k (colsZ c n).toNat] := by simp [matZ, List.range_succ]
theorem entryZ_bound {c n i j : Int} (hi : 0 ≤ i) (hi' : i < 1000) (hj : 0 ≤ j) (hj' : j < 1000) : -1 ≤ entryZ c n i j ∧ entryZ c n i j ≤ 1000 := by
  unfold entryZ
  split; split <;> omega
  split; split <;> omega
  split; split; omega; split <;> omega
  split; omega; split <;> omega
theorem len_small {z : Int} (h : z.natAbs < 4294967296) : (limbs z.natAbs).length ≤ 1 := length_limbs_le (by simpa [B_val] using h)
end Go.Vw

set_option linter.unusedVariables false
set_option linter.unusedSimpArgs false
namespace Go.Proofs.YtfnckkfbnnbmkaaGreat
open Go.Vw
attribute [local irreducible] awp awpL awpR

theorem rq_int (z : Int) : rq (z : Rat) = zR z := by
  unfold rq zR
  rw [Rat.num_intCast, Rat.den_intCast]
  rfl
theorem okQ_int {z : Int} (h : z.natAbs < 4294967296) : okQ 1000000 (z : Rat) := by
  unfold okQ
  rw [Rat.num_intCast, Rat.den_intCast, limbs_one]
  exact ⟨Nat.lt_of_le_of_lt (len_small h) (by decide), by decide⟩
theorem ref03_AddI (x y : Int) (hx : x.natAbs < 4294967296) (hy : y.natAbs < 4294967296) : Ret Tryz.prog 16 [rD (zR x), rD (zR y)] (· = rD (zR (x + y))) := by
  have := ref03_AddQ x y (okQ_int hx) (okQ_int hy)
  rw [← Rat.intCast_add, rq_int, rq_int, rq_int] at this; exact this
theorem ref03_MulI (x y : Int) (hx : x.natAbs < 4294967296) (hy : y.natAbs < 4294967296) : Ret Tryz.prog 17 [rD (zR x), rD (zR y)] (· = rD (zR (x * y))) := by
  have := ref03_MulQ x y (okQ_int hx) (okQ_int hy)
  rw [← Rat.intCast_mul, rq_int, rq_int, rq_int] at this; exact this
theorem ref03_SignI (x : Int) (hx : x.natAbs < 4294967296) : Ret Tryz.prog 52 [rD (zR x)] (· = .int .i64 x.sign) := by
  have := ref03_SignQ x (okQ_int hx)
  rw [rq_int, Rat.num_intCast] at this; exact this
theorem zR_zero : zR 0 = r0 := by simp [zR, limbs_zero]
theorem zR_inj {x y : Int} (h : zR x = zR y) : x = y := by
  have := rq_inj (p := (x : Rat)) (q := (y : Rat)) (by rw [rq_int, rq_int, h])
  exact Rat.intCast_inj.1 this
theorem okR_int (z : Int) (h : z.natAbs < 4294967296) : okR 100000000000 (zR z) := ⟨Nat.lt_of_le_of_lt (len_small h) (by decide), by show ([] : List Nat).length < _; decide⟩
theorem ref03_SameI (x y : Int) (hx : x.natAbs < 4294967296) (hy : y.natAbs < 4294967296) : Ret Tryz.prog 21 [rD (zR x), rD (zR y)] (· = .bool (decide (x = y))) := by
  have := ref03_Same (zR x) (zR y) (okR_int x hx) (okR_int y hy)
  rw [show decide (zR x = zR y) = decide (x = y) by
    by_cases h : x = y
    · subst h; simp
    · rw [decide_eq_false h, decide_eq_false (fun e => h (zR_inj e))]] at this
  exact this
end Go.Proofs.YtfnckkfbnnbmkaaGreat

/-
  Lists of rational numbers in ascending order: by insertion in place, and by insertion into a new list. Conditions: as each says.
-/
set_option linter.unusedVariables false
set_option linter.unusedSimpArgs false
namespace Go.Vw
/-- The numbers in ascending order. -/
def srt (l : List Rat) : List Rat := l.mergeSort fun a b => decide (a ≤ b)
def AscQ (l : List Rat) : Prop := l.Pairwise (· ≤ ·)
theorem srt_perm (l : List Rat) : (srt l).Perm l := List.mergeSort_perm _ _
theorem srt_asc (l : List Rat) : AscQ (srt l) := by
  have h := List.pairwise_mergeSort (le := fun a b : Rat => decide (a ≤ b)) (fun a b c h1 h2 => by
    simp only [decide_eq_true_eq] at *
    exact Rat.le_trans h1 h2) (fun a b => by
    rcases Rat.le_total (a := a) (b := b) with h | h <;> simp [h]) l
  exact List.Pairwise.imp (fun h => of_decide_eq_true h) h
theorem asc_unique {a b : List Rat} (ha : AscQ a) (hb : AscQ b) (h : a.Perm b) : a = b :=
  List.Perm.eq_of_pairwise (le := fun x y : Rat => x ≤ y) (fun x y _ _ h1 h2 => Rat.le_antisymm h1 h2) ha hb h
theorem srt_unique {a l : List Rat} (ha : AscQ a) (h : a.Perm l) : a = srt l := asc_unique ha (srt_asc l) (h.trans (srt_perm l).symm)
theorem srt_len (l : List Rat) : (srt l).length = l.length := (srt_perm l).length_eq
theorem asc_getD {l : List Rat} (h : AscQ l) {i j : Nat} (hij : i ≤ j) (hj : j < l.length) : l.getD i 0 ≤ l.getD j 0 := by
  rcases Nat.lt_or_eq_of_le hij with h1 | h1
  · have := List.pairwise_iff_getElem.1 h i j (by omega) hj h1
    simpa [List.getD_eq_getElem?_getD, show i < l.length by omega, hj] using this
  · subst h1; exact Rat.le_refl
theorem asc_of_getD {l : List Rat} (h : ∀ i j, i < j → j < l.length → l.getD i 0 ≤ l.getD j 0) : AscQ l := by
  refine List.pairwise_iff_getElem.2 fun i j hi hj hij => ?_
  have := h i j hij hj
  simpa [List.getD_eq_getElem?_getD, hi, hj] using this
/-- Two neighbours change places. -/
def swapL (l : List Rat) (j : Nat) : List Rat := (l.set (j + 1) (l.getD j 0)).set j (l.getD (j + 1) 0)
theorem swapL_len (l : List Rat) (j : Nat) : (swapL l j).length = l.length := by simp [swapL]
theorem swapL_getD (l : List Rat) {j : Nat} (h : j + 1 < l.length) (i : Nat) : (swapL l j).getD i 0 = if i = j then l.getD (j + 1) 0 else if i = j + 1 then l.getD j 0 else l.getD i 0 := by
  unfold swapL
  simp only [List.getD_eq_getElem?_getD, List.getElem?_set]
  by_cases h1 : i = j
  · subst h1
    simp [show i < l.length by omega]
  · by_cases h2 : i = j + 1
    · subst h2
      simp [h]
    · simp [h1, h2, Ne.symm h1, Ne.symm h2]
theorem swapL_perm (l : List Rat) {j : Nat} (h : j + 1 < l.length) : (swapL l j).Perm l := by
  unfold swapL
  have e1 : l.getD j 0 = l[j] := by simp [List.getD_eq_getElem?_getD, show j < l.length by omega]
  have e2 : l.getD (j + 1) 0 = l[j + 1] := by simp [List.getD_eq_getElem?_getD, h]
  rw [e1, e2, List.set_comm _ _ (by omega)]
  exact List.set_set_perm (by omega) h
def insGo (l : List Rat) : Nat → List Rat
  | 0 => l
  | j + 1 => if l.getD (j + 1) 0 < l.getD j 0 then insGo (swapL l j) j else l
def insTo (l : List Rat) : Nat → List Rat
  | 0 => l
  | i + 1 => insGo (insTo l i) (i + 1)
theorem insGo_perm : ∀ (j : Nat) (l : List Rat), j < l.length → (insGo l j).Perm l
  | 0, l, h => List.Perm.refl _
  | j + 1, l, h => by
    unfold insGo
    split
    · exact (insGo_perm j _ (by rw [swapL_len]; omega)).trans (swapL_perm l h)
    · exact List.Perm.refl _
/-- All but one of the first numbers ascend; it is at most those behind it. -/
def Exc (l : List Rat) (j m : Nat) : Prop := (∀ a b, a < b → b ≤ m → a ≠ j → b ≠ j → l.getD a 0 ≤ l.getD b 0) ∧ ∀ b, j < b → b ≤ m → l.getD j 0 ≤ l.getD b 0
theorem insGo_asc : ∀ (j m : Nat) (l : List Rat), j ≤ m → m < l.length → Exc l j m → ∀ a b, a < b → b ≤ m → (insGo l j).getD a 0 ≤ (insGo l j).getD b 0
  | 0, m, l, hj, hm, h, a, b, hab, hb => by
    unfold insGo
    by_cases ha : a = 0
    · subst ha; exact h.2 b hab hb
    · exact h.1 a b hab hb ha (by omega)
  | j + 1, m, l, hj, hm, h, a, b, hab, hb => by
    unfold insGo
    split
    · rename_i hlt
      refine insGo_asc j m _ (by omega) (by rw [swapL_len]; exact hm) ⟨?_, ?_⟩ a b hab hb
      · intro x y hxy hy hx hyj
        rw [swapL_getD l (by omega), swapL_getD l (by omega), if_neg hx, if_neg hyj]
        by_cases h1 : y = j + 1
        · rw [if_pos h1, if_neg (by omega)]
          exact h.1 x j (by omega) (by omega) (by omega) (by omega)
        · rw [if_neg h1]
          by_cases h2 : x = j + 1
          · rw [if_pos h2]
            exact h.1 j y (by omega) hy (by omega) h1
          · rw [if_neg h2]
            exact h.1 x y hxy hy h2 h1
      · intro y hy hym
        rw [swapL_getD l (by omega), swapL_getD l (by omega), if_pos rfl, if_neg (by omega)]
        by_cases h1 : y = j + 1
        · rw [if_pos h1]; exact Rat.le_of_lt hlt
        · rw [if_neg h1]
          exact h.2 y (by omega) hym
    · rename_i hlt
      have hle := Rat.not_lt.1 hlt
      by_cases h1 : b = j + 1
      · subst h1
        refine Rat.le_trans ?_ hle
        by_cases h2 : a = j
        · subst h2; exact Rat.le_refl
        · exact h.1 a j (by omega) (by omega) (by omega) (by omega)
      · by_cases h2 : a = j + 1
        · subst h2; exact h.2 b hab hb
        · exact h.1 a b hab hb h2 h1
theorem insGo_tail : ∀ (j m : Nat) (l : List Rat), j ≤ m → m < l.length → ∀ b, m < b → (insGo l j).getD b 0 = l.getD b 0
  | 0, m, l, hj, hm, b, hb => rfl
  | j + 1, m, l, hj, hm, b, hb => by
    unfold insGo
    split
    · rw [insGo_tail j m _ (by omega) (by rw [swapL_len]; exact hm) b hb, swapL_getD l (by omega), if_neg (by omega), if_neg (by omega)]
    · rfl
theorem insTo_perm : ∀ (i : Nat) (l : List Rat), i < l.length → (insTo l i).Perm l
  | 0, l, h => List.Perm.refl _
  | i + 1, l, h => by
    have h1 := insTo_perm i l (by omega)
    exact (insGo_perm (i + 1) _ (by rw [h1.length_eq]; exact h)).trans h1
theorem insTo_len (i : Nat) (l : List Rat) (h : i < l.length) : (insTo l i).length = l.length := (insTo_perm i l h).length_eq
theorem insTo_asc : ∀ (i : Nat) (l : List Rat), i < l.length → ∀ a b, a < b → b ≤ i → (insTo l i).getD a 0 ≤ (insTo l i).getD b 0
  | 0, l, h, a, b, hab, hb => by omega
  | i + 1, l, h, a, b, hab, hb => by
    have h1 := insTo_asc i l (by omega)
    have hl := insTo_len i l (by omega)
    exact insGo_asc (i + 1) (i + 1) _ (Nat.le_refl _) (by omega) ⟨fun x y hxy hy hx hy2 => h1 x y hxy (by omega), fun y hy1 hy2 => absurd hy1 (by omega)⟩ a b hab hb
theorem insTo_srt (l : List Rat) (h : 0 < l.length) : insTo l (l.length - 1) = srt l := by
  refine srt_unique (asc_of_getD fun i j hij hj => ?_) (insTo_perm _ l (by omega))
  rw [insTo_len _ l (by omega)] at hj
  exact insTo_asc (l.length - 1) l (by omega) i j hij (by omega)
end Go.Vw

/-
  A variable's data in another form; reading a literal as a list. Conditions: as each says.
-/
set_option linter.unusedVariables false
set_option linter.unusedSimpArgs false
namespace Go.Vw
theorem awp_cast {X : Ctx} {c : Code} {Q : Exit → St → Prop} {s : St} (t : Nat) {x : D} (y : D) (ht : s.tmps t = .d x) (hle : LeD x y) (h : awp X c Q (s.put (some t) (.d y))) : awp X c Q s := fun io F a w hs => by
  refine h io F a w ⟨hs.kept, fun u => ?_, hs.nt, hs.df, hs.bl, hs.inj, hs.ff, hs.f0, hs.st⟩
  rw [put_keys]
  simp only [St.put]
  cases hb : Nat.beq u t with
  | true =>
    have := Nat.eq_of_beq_eq_true hb
    subst this
    have hv := hs.tm u
    rw [ht] at hv
    simp only [cond_true, VR] at hv ⊢
    exact hle F w _ hv
  | false => simpa using hs.tm u
theorem LeD.inFull {x y : D} (h : LeD x y) : LeD (.full x) (.full y) := fun F w v k => by
  simp only [DR] at k ⊢
  exact ⟨k.1, h F w v k.2⟩
section
variable {X : Ctx} {all : Array Oper} {s : St} {o : Oper} {Q : Exit → St → Prop} {rest : List Oper} {d : Tmp} {α : Type} {en : α → List D} {z : α} {l : List α}
/-- A slice literal as a block of the call's own. -/
theorem e_litO {e : TypeId} {sz len : Nat} {rows : List (List D)} {dst : Option Tmp} {op : Op} {ty : TypeId} {pos : String} {after : Array Edge} {g : Option (Nat × Bool)} (hdst : dst = some d) (hg : gd all s ⟨dst, op, ty, pos, after, g⟩ = some true) (hd : dstOk X.N (some d) = true) (hK : X.K.contains d = false) (h : evalB X.T s op = some (e, sz, len, rows)) (hr : LeR sz rows en l) :
    E1 X all s ⟨dst, op, ty, pos, after, g⟩ ((s.new d (.data e sz en z l)).put (some d) (.own d 0 len e sz)) := by
  subst hdst
  intro io F a w hs K Q hQ
  have hw := gd_sound (fun t _ => hs.tm t) hg
  obtain ⟨h1, arr, h2, h3, h4, h5⟩ := evalB_sound (P := X.P) (ev := a.eval) X.ok ⟨some d, op, ty, pos, after, g⟩ (fun y _ => hs.opd y) h
  obtain ⟨r1, r2⟩ := hr.spec
  have hlra : LRA F w (fun j => arr[j]?) 0 sz en l := fun i b hi => by
    have hlt : i < rows.length := by have := (List.getElem?_eq_some_iff.1 hi).1; omega
    obtain ⟨q1, q2⟩ := r2 i _ b (List.getElem?_eq_getElem hlt) hi
    obtain ⟨p1, p2⟩ := h5 i _ (List.getElem?_eq_getElem hlt)
    exact ⟨q2.1 ▸ q1, by rw [Nat.zero_add]; exact q2.2 F w _ _ p2⟩
  have hnb := hs.newBlk d (notMem hK) e arr (.data e sz en z l) (.inl ⟨_, _, _, _, _, rfl, hlra⟩)
  refine opWp_value hw h2 (hQ _ F _ _ (hnb.put (dstOk_sound hd) ?_))
  simp only [VR]
  refine .inr ⟨w.heap.size, len, _, updio_same _ _ _, by rw [Nat.zero_mul], by omega, by unfold maxLen; omega, heap_alloc_new w _, by simp [h3], ?_⟩
  show 0 + len ≤ (s.new d _).ln d
  rw [show (s.new d (.data e sz en z l)).ln d = _ from ln_of withBlk_same]
  simp [Blk.ln]; omega
theorem stepLitO {e : TypeId} {sz len : Nat} {rows : List (List D)} (hdst : o.dst = some d) (h : evalB X.T s o.op = some (e, sz, len, rows)) (hg : gd all s o = some true) (hd : dstOk X.N (some d) = true) (hK : X.K.contains d = false) (hr : LeR sz rows en l) (r : awpL X all rest Q ((s.new d (.data e sz en z l)).put (some d) (.own d 0 len e sz))) : awpL X all (o :: rest) Q s := by
  obtain ⟨dst, op, ty, pos, after, g⟩ := o
  exact awpL_step (e_litO hdst hg hd hK h hr) r
end
end Go.Vw

set_option linter.unusedVariables false
set_option linter.unusedSimpArgs false
set_option maxHeartbeats 8000000
namespace Go.Proofs.YtfnckkfbnnbmkaaGreat
open Go.Vw
attribute [local irreducible] awp awpL awpR

theorem slices_ins (l : List Rat) (hn : l.length < 100000) (hl : ∀ q ∈ l, okQ 1000 q) : RetB Tryz.prog 141 [.own 1000 0 l.length 30 3, .d (.int .i64 0), .d (.int .i64 l.length), .fn 69 []] (lookB [(1000, .data 30 3 qC 0 l)]) (.tup []) (lookB [(1000, .data 30 3 qC 0 (srt l))]) := by
  refine retB_of_awp tab [1000] Tryz.func141 rfl rfl rfl (Nat.le_of_ble_eq_true rfl) rfl ⟨by show l.length ≤ (srt l).length; rw [srt_len]; exact Nat.le_refl _, trivial⟩ (fun w0 F0 A io0 => ?_)
  repeat' (first
    | (show awpL _ _ _ _ _; first | refine goL ?_ | (refine gdLG ?_ ?_ <;> intro _ <;> try (exfalso; omega)))
    | (show awp _ _ _ _; first | refine goA ?_ | refine rg 4 14 ?_ | refine rg 6 16 ?_ | (refine cdG ?_ ?_ <;> intro _ <;> try (exfalso; omega)))
    | (show andThen _ _ _ _; refine goN ?_)
    | (show inBlock _ _ _ _; refine goB ?_)
    | (show awpR _ _ _ _ _ _ _; first | refine goR ?_ | (refine gdRG ?_ ?_ <;> intro _ <;> try (exfalso; omega)))
    | (show retPost _ _ _ _ _; refine finG ?_)
    | (show retPostB _ _ _ _ _ _; first | refine finB rfl rfl ?_ ?_ | refine finBT rfl rfl rfl ?_ ?_))
  refine awp_loop1 (fun (i : Nat) => ([(0, .own 1000 0 l.length 30 3), (1, .d (.int .i64 0)), (2, .d (.int .i64 l.length)), (3, .fn 69 []), (8, .d (.int .i64 (i + 1 : Nat)))], [(1000, .data 30 3 qC 0 (insTo l i))])) (fun i => i = 0 ∨ i < l.length) (fun i => l.length - i) 0 (.inl rfl) ⟨rfl, rfl, rfl, rfl, iv (by omega), rfl⟩ ⟨rfl, trivial⟩ (fun i hi => ?_)
  by_cases h3 : i + 1 < l.length
  · have hp := insTo_perm i l (by omega)
    obtain ⟨F, hF⟩ : ∃ F, insTo l (i + 1) = F := ⟨_, rfl⟩
    have hg : insGo (insTo l i) (i + 1) = F := hF
    have hlen := hp.length_eq
    generalize insTo l i = l0 at *
    repeat' (first
      | (show awpL _ _ _ _ _; first | refine goL ?_ | (refine gdLG ?_ ?_ <;> intro _ <;> try (exfalso; omega)))
      | (show awp _ _ _ _; first | refine goA ?_ | refine rg 4 14 ?_ | refine rg 6 16 ?_ | (refine cdG ?_ ?_ <;> intro _ <;> try (exfalso; omega)))
      | (show andThen _ _ _ _; refine goN ?_)
      | (show inBlock _ _ _ _; refine goB ?_)
      | (show awpR _ _ _ _ _ _ _; first | refine goR ?_ | (refine gdRG ?_ ?_ <;> intro _ <;> try (exfalso; omega)))
      | (show retPost _ _ _ _ _; refine finG ?_)
      | (show retPostB _ _ _ _ _ _; first | refine finB rfl rfl ?_ ?_ | refine finBT rfl rfl rfl ?_ ?_))
    refine awp_loop2 (fun (m : List Rat) (j : Nat) => ([(0, .own 1000 0 l.length 30 3), (1, .d (.int .i64 0)), (2, .d (.int .i64 l.length)), (3, .fn 69 []), (8, .d (.int .i64 (i + 1 : Nat))), (9, .d (.int .i64 j))], [(1000, .data 30 3 qC 0 m)])) (fun m j => j ≤ i + 1 ∧ m.Perm l ∧ insGo m j = F) (fun m j => j) l0 (i + 1) ⟨Nat.le_refl _, hp, hg⟩ ⟨rfl, rfl, rfl, rfl, rfl, rfl, rfl⟩ ⟨rfl, trivial⟩ (fun m j hj => ?_)
    obtain ⟨j1, j2, j3⟩ := hj
    have hml := j2.length_eq
    by_cases hj0 : j = 0
    · subst hj0
      have e : m = F := j3
      clear j2 hp
      repeat' (first
        | (show awpL _ _ _ _ _; first | refine goL ?_ | (refine gdLG ?_ ?_ <;> intro _ <;> try (exfalso; omega)))
        | (show awp _ _ _ _; first | refine goA ?_ | refine rg 4 14 ?_ | refine rg 6 16 ?_ | (refine cdG ?_ ?_ <;> intro _ <;> try (exfalso; omega)))
        | (show andThen _ _ _ _; refine goN ?_)
        | (show inBlock _ _ _ _; refine goB ?_)
        | (show awpR _ _ _ _ _ _ _; first | refine goR ?_ | (refine gdRG ?_ ?_ <;> intro _ <;> try (exfalso; omega)))
        | (show retPost _ _ _ _ _; refine finG ?_)
        | (show retPostB _ _ _ _ _ _; first | refine finB rfl rfl ?_ ?_ | refine finBT rfl rfl rfl ?_ ?_))
      exact ⟨i + 1, .inr h3, by omega, ⟨rfl, rfl, rfl, rfl, iv (by omega), rfl⟩, by rw [hF, ← e]; rfl, trivial⟩
    · obtain ⟨k, rfl⟩ : ∃ k, j = k + 1 := ⟨j - 1, by omega⟩
      have ek : (((k + 1 : Nat) : Int) - 1).toNat = k := by omega
      have hok : ∀ q ∈ m, okQ 1000 q := fun q hq => hl q (j2.subset hq)
      have c := rational_CompareQ (m.getD (k + 1) 0) (m.getD (((k + 1 : Nat) : Int) - 1).toNat 0) ((getD_ok hok (by omega)).mono (by decide)) ((getD_ok hok (by omega)).mono (by decide))
      have cn := cmpQ_neg (m.getD (k + 1) 0) (m.getD (((k + 1 : Nat) : Int) - 1).toNat 0)
      have hsp := swapL_perm m (j := k) (by omega)
      unfold insGo at j3
      rw [ek] at cn
      obtain ⟨u, hu⟩ : ∃ u, cmpQ (m.getD (k + 1) 0) (m.getD (((k + 1 : Nat) : Int) - 1).toNat 0) = u := ⟨_, rfl⟩
      rw [hu] at c
      rw [ek] at hu
      rw [hu] at cn
      by_cases hlt : m.getD (k + 1) 0 < m.getD k 0
      · rw [if_pos hlt] at j3
        have hneg := cn.2 hlt
        have keep := And.intro (hsp.trans j2) j3
        clear cn hlt hu hok hsp j2 j3 hp hl
        repeat' (first
          | (show awpL _ _ _ _ _; first | refine goL ?_ | refine cl 69 tt rfl rfl rfl (hr := c) (k := ?_) | (refine gdLG ?_ ?_ <;> intro _ <;> try (exfalso; omega)))
          | (show awp _ _ _ _; first | refine goA ?_ | refine rg 4 14 ?_ | refine rg 6 16 ?_ | (refine cdG ?_ ?_ <;> intro _ <;> try (exfalso; omega)))
          | (show andThen _ _ _ _; refine goN ?_)
          | (show inBlock _ _ _ _; refine goB ?_)
          | (show awpR _ _ _ _ _ _ _; first | refine goR ?_ | refine clR 69 tt rfl rfl rfl (hr := c) (k := ?_) | (refine gdRG ?_ ?_ <;> intro _ <;> try (exfalso; omega)))
          | (show retPost _ _ _ _ _; refine finG ?_)
          | (show retPostB _ _ _ _ _ _; first | refine finB rfl rfl ?_ ?_ | refine finBT rfl rfl rfl ?_ ?_))
        exact ⟨swapL m k, k, ⟨by omega, keep.1, keep.2⟩, by omega, ⟨rfl, rfl, rfl, rfl, rfl, iv (by omega), rfl⟩, by rw [ek]; rfl, trivial⟩
      · rw [if_neg hlt] at j3
        have hneg := mt cn.1 hlt
        clear cn hlt hu hok hsp j2 hp hl
        repeat' (first
          | (show awpL _ _ _ _ _; first | refine goL ?_ | refine cl 69 tt rfl rfl rfl (hr := c) (k := ?_) | (refine gdLG ?_ ?_ <;> intro _ <;> try (exfalso; omega)))
          | (show awp _ _ _ _; first | refine goA ?_ | refine rg 4 14 ?_ | refine rg 6 16 ?_ | (refine cdG ?_ ?_ <;> intro _ <;> try (exfalso; omega)))
          | (show andThen _ _ _ _; refine goN ?_)
          | (show inBlock _ _ _ _; refine goB ?_)
          | (show awpR _ _ _ _ _ _ _; first | refine goR ?_ | refine clR 69 tt rfl rfl rfl (hr := c) (k := ?_) | (refine gdRG ?_ ?_ <;> intro _ <;> try (exfalso; omega)))
          | (show retPost _ _ _ _ _; refine finG ?_)
          | (show retPostB _ _ _ _ _ _; first | refine finB rfl rfl ?_ ?_ | refine finBT rfl rfl rfl ?_ ?_))
        exact ⟨i + 1, .inr h3, by omega, ⟨rfl, rfl, rfl, rfl, iv (by omega), rfl⟩, by rw [hF, ← j3]; rfl, trivial⟩
  · have e : insTo l i = srt l := by
      by_cases h0 : l.length = 0
      · have hi0 : i = 0 := by omega
        subst hi0
        have : l = [] := List.length_eq_zero_iff.1 h0
        subst this
        exact (List.Perm.eq_nil (srt_perm [])).symm
      · rw [show i = l.length - 1 by omega]
        exact insTo_srt l (by omega)
    rw [e]
    repeat' (first
      | (show awpL _ _ _ _ _; first | refine goL ?_ | (refine gdLG ?_ ?_ <;> intro _ <;> try (exfalso; omega)))
      | (show awp _ _ _ _; first | refine goA ?_ | refine rg 4 14 ?_ | refine rg 6 16 ?_ | (refine cdG ?_ ?_ <;> intro _ <;> try (exfalso; omega)))
      | (show andThen _ _ _ _; refine goN ?_)
      | (show inBlock _ _ _ _; refine goB ?_)
      | (show awpR _ _ _ _ _ _ _; first | refine goR ?_ | (refine gdRG ?_ ?_ <;> intro _ <;> try (exfalso; omega)))
      | (show retPost _ _ _ _ _; refine finG ?_)
      | (show retPostB _ _ _ _ _ _; first | refine finB rfl rfl ?_ ?_ | refine finBT rfl rfl rfl ?_ ?_))
    all_goals first | exact leVT | exact ⟨rfl, trivial⟩
end Go.Proofs.YtfnckkfbnnbmkaaGreat

set_option linter.unusedVariables false
set_option linter.unusedSimpArgs false
namespace Go.Proofs.YtfnckkfbnnbmkaaGreat
open Go.Vw
attribute [local irreducible] awp awpL awpR

theorem tmodFact (k n : Int) (h : 0 < n) : -n < k.tmod n ∧ k.tmod n < n ∧ k % n = if k.tmod n < 0 then k.tmod n + n else k.tmod n := by
  have h1 := Int.tmod_lt_of_pos k h
  have h2 := Int.lt_tmod_of_pos k h
  have h3 := Int.emod_nonneg k (show n ≠ 0 by omega)
  have h4 := Int.emod_lt_of_pos k h
  have e1 := Int.mul_tdiv_add_tmod k n
  have e2 := Int.mul_ediv_add_emod k n
  refine ⟨h2, h1, ?_⟩
  have hd : n * (k.tdiv n - k / n) = k % n - k.tmod n := by rw [Int.mul_sub]; omega
  split
  · have hb : -(2 * n) < n * (k.tdiv n - k / n) ∧ n * (k.tdiv n - k / n) < 2 * n ∧ 0 < n * (k.tdiv n - k / n) := by omega
    have h5 : 0 < k.tdiv n - k / n := Int.pos_of_mul_pos_right hb.2.2 h
    have h6 : k.tdiv n - k / n < 2 := by
      rcases Int.lt_or_le (k.tdiv n - k / n) 2 with h7 | h7
      · exact h7
      · have := Int.mul_le_mul_of_nonneg_left h7 (Int.le_of_lt h); omega
    rw [show k.tdiv n - k / n = 1 by omega] at hd
    omega
  · have hb : -n < n * (k.tdiv n - k / n) ∧ n * (k.tdiv n - k / n) < n := by omega
    have h5 : -1 < k.tdiv n - k / n := by
      rcases Int.lt_or_le (-1) (k.tdiv n - k / n) with h7 | h7
      · exact h7
      · have := Int.mul_le_mul_of_nonneg_left h7 (Int.le_of_lt h); omega
    have h6 : k.tdiv n - k / n < 1 := by
      rcases Int.lt_or_le (k.tdiv n - k / n) 1 with h7 | h7
      · exact h7
      · have := Int.mul_le_mul_of_nonneg_left h7 (Int.le_of_lt h); omega
    rw [show k.tdiv n - k / n = 0 by omega] at hd
    omega
end Go.Proofs.YtfnckkfbnnbmkaaGreat

set_option linter.unusedVariables false
set_option linter.unusedSimpArgs false
set_option maxHeartbeats 4000000
namespace Go.Proofs.YtfnckkfbnnbmkaaGreat
open Go.Vw
attribute [local irreducible] awp awpL awpR

/-- A tape: its numbers and the place. -/
def I64 (l : List Int) : Prop := ∀ x ∈ l, -9223372036854775808 ≤ x ∧ x < 9223372036854775808
theorem I64.getD {l : List Int} (h : I64 l) (i : Nat) : -9223372036854775808 ≤ l.getD i 0 ∧ l.getD i 0 < 9223372036854775808 := by
  rw [List.getD_eq_getElem?_getD]
  by_cases hi : i < l.length
  · rw [List.getElem?_eq_getElem hi]; exact h _ (List.getElem_mem hi)
  · rw [List.getElem?_eq_none (by omega)]; decide
theorem ref03_FractionQ (a b : Int) (ha : -1000000 ≤ a) (ha2 : a < 1000000) (hb : 0 < b) (hb2 : b < 1000000) : Ret Tryz.prog 30 [.int .i64 a, .int .i64 b] (· = qD (Rat.divInt a b)) := ref03_Fraction a b (by omega) (by omega) (by omega) (by omega) (by omega)
theorem ok_fracW {a b : Int} (hb : b ≠ 0) (ha : a.natAbs < 18446744073709551616) (hb2 : b.natAbs < 18446744073709551616) : okQ 10 (Rat.divInt a b) :=
  okQ_divInt hb (Nat.lt_of_le_of_lt (u64_len ha) (by decide)) (Nat.lt_of_le_of_lt (u64_len hb2) (by decide))
theorem ref03_FromIntW (v : Int) (h1 : -9223372036854775808 ≤ v) (h2 : v < 9223372036854775808) : Ret Tryz.prog 19 [.int .i64 v] (· = qD (v : Rat)) := by
  have := ref03_FromInt v h1 h2
  rw [← rq_int] at this
  exact this
theorem ok_intW {v : Int} (h : v.natAbs < 18446744073709551616) : okQ 10 (v : Rat) := by
  refine ⟨?_, ?_⟩
  · rw [Rat.num_intCast]; exact Nat.lt_of_le_of_lt (u64_len h) (by decide)
  · rw [Rat.den_intCast, limbs_one]; decide
end Go.Proofs.YtfnckkfbnnbmkaaGreat

/-
  What an argument of a law holds, as a value of a plain type: whatever can be read of it, it stands for. Conditions: the type's shape is as its code says (a closed fact).
-/
set_option linter.unusedSimpArgs false
set_option linter.unusedVariables false
set_option linter.unusedSectionVars false
namespace Go.Vw
open Go.RowKit Go.ChangeShapes Go.WideShapes

mutual
inductive Ty where
  | int (k : IntKind)
  | bool
  | str
  | struct (fs : Tys)
  | slice (e : Ty)
inductive Tys where
  | nil
  | cons (t : Ty) (ts : Tys)
end
mutual
def Ty.Val : Ty → Type
  | .int _ => Int
  | .bool => Bool
  | .str => List UInt8
  | .struct fs => fs.Val
  | .slice e => List e.Val
def Tys.Val : Tys → Type
  | .nil => Unit
  | .cons t ts => t.Val × ts.Val
end
mutual
def Ty.zero : (t : Ty) → t.Val
  | .int _ => (0 : Int)
  | .bool => false
  | .str => ([] : List UInt8)
  | .struct fs => fs.zero
  | .slice e => ([] : List e.Val)
def Tys.zero : (ts : Tys) → ts.Val
  | .nil => ()
  | .cons t ts => (t.zero, ts.zero)
end
mutual
def Ty.width : Ty → Nat
  | .int _ => 1
  | .bool => 1
  | .str => 1
  | .struct fs => fs.width
  | .slice _ => 1
def Tys.width : Tys → Nat
  | .nil => 0
  | .cons t ts => t.width + ts.width
end
mutual
def Ty.cells : (t : Ty) → t.Val → List D
  | .int k, (n : Int) => [.int k n]
  | .bool, (b : Bool) => [.bool b]
  | .str, (s : List UInt8) => [.str s]
  | .struct fs, v => fs.cells v
  | .slice e, (l : List e.Val) => [.sl e.width e.cells e.zero l]
def Tys.cells : (ts : Tys) → ts.Val → List D
  | .nil, _ => []
  | .cons t ts, v => t.cells v.1 ++ ts.cells v.2
end
mutual
def Ty.wf : (t : Ty) → t.Val → Prop
  | .int k, (n : Int) => (Lit.int k n).wf = true
  | .bool, _ => True
  | .str, (s : List UInt8) => s.length ≤ maxLen
  | .struct fs, v => fs.wf v
  | .slice e, (l : List e.Val) => l.length ≤ maxLen ∧ ∀ a ∈ l, e.wf a
def Tys.wf : (ts : Tys) → ts.Val → Prop
  | .nil, _ => True
  | .cons t ts, v => t.wf v.1 ∧ ts.wf v.2
end
mutual
def Ty.ok (P : Program) : Ty → TypeId → Bool
  | .int k, t => match P.underlying t with | some (.int k') => decide (k' = k) | _ => false
  | .bool, t => match P.underlying t with | some .bool => true | _ => false
  | .str, t => match P.underlying t with | some .string => true | _ => false
  | .struct fs, t => match P.underlying t with | some (.struct fields) => Nat.beq (P.cellsOf t) fs.width && Tys.ok P fs fields.toList 0 | _ => false
  | .slice e, t => match P.underlying t with | some (.slice te) => Nat.beq (P.cellsOf te) e.width && Nat.blt 0 e.width && Ty.ok P e te | _ => false
def Tys.ok (P : Program) : Tys → List Field → Nat → Bool
  | .nil, fs, _ => match fs with | [] => true | _ :: _ => false
  | .cons t ts, fs, off => match fs with
    | f :: fs => Nat.beq f.offset off && Nat.beq (P.cellsOf f.type) t.width && Ty.ok P t f.type && Tys.ok P ts fs (off + t.width)
    | [] => false
end
mutual
theorem Ty.cells_len : ∀ (t : Ty) (v : t.Val), (t.cells v).length = t.width
  | .int k, v => rfl
  | .bool, v => rfl
  | .str, v => rfl
  | .struct fs, v => by simp only [Ty.cells, Ty.width]; exact Tys.cells_len fs v
  | .slice e, v => rfl
theorem Tys.cells_len : ∀ (ts : Tys) (v : ts.Val), (ts.cells v).length = ts.width
  | .nil, v => rfl
  | .cons t ts, v => by simp only [Tys.cells, Tys.width, List.length_append]; rw [Ty.cells_len t v.1, Tys.cells_len ts v.2]
end

/-- All that the memory holds. -/
def allF (w : World) : Nat → Prop := fun b => b < w.heap.size
section
variable {H : Type} {enc : TypeId × Value → H} {P : Program} {w : World} {held : Bool}

theorem dra_one {F : Nat → Prop} {g : Nat → Option Value} {off : Nat} {x : D} {v : Value} (h0 : g off = some v) (h1 : v.oneCell' = true) (h : DR F w x v) : DRA F w g off [x] := by
  simp only [DRA]; exact ⟨⟨v, h0, h1, h⟩, trivial⟩
theorem dra_app {F : Nat → Prop} {g : Nat → Option Value} {xs ys : List D} {off : Nat} (h : DRA F w g off xs) (k : DRA F w g (off + xs.length) ys) : DRA F w g off (xs ++ ys) := by
  rw [DRA_iff] at h k ⊢
  intro i c hi
  by_cases hl : i < xs.length
  · rw [List.getElem?_append_left hl] at hi; exact h i c hi
  · rw [List.getElem?_append_right (by omega)] at hi
    obtain ⟨v, h1, h2⟩ := k _ c hi
    exact ⟨v, by rw [← h1]; congr 1; omega, h2⟩
/-- Where cells are read, there lies a row. -/
theorem row_of_cells {a : Addr} {n : Nat} {cs : List Value} (h : w.cells? 0 a n = some cs) (hn : 0 < n) : ∃ b o arr ty fz, a = ⟨b, o, none⟩ ∧ w.heap[b]? = some (.cells arr ty fz) := by
  obtain ⟨_, hl, hc⟩ := World.cells?_some h
  have h0 := hc 0 hn
  rw [List.getElem?_eq_getElem (by omega)] at h0
  obtain ⟨b, o, sp⟩ := a
  unfold World.cell? at h0
  split at h0
  · rename_i c ty fz hh
    split at h0
    · cases h0
    · rename_i hs
      cases sp with
      | none => exact ⟨b, o, c, ty, fz, rfl, hh⟩
      | some s => exact absurd rfl hs
  · cases h0

mutual
theorem Ty.reads : ∀ (ty : Ty) (fuel : Nat) (t : TypeId) (cs : List Value) (x : DataW H × List MemPlace), ty.ok P t = true → DataW.trod enc P w 0 (fun _ => true) held fuel t cs = some x → ∃ v : ty.Val, ty.wf v ∧ cs.length = ty.width ∧ DRA (allF w) w (fun i => cs[i]?) 0 (ty.cells v)
  | .int k, fuel, t, cs, x, hok, h => by
    simp only [Ty.ok] at hok
    split at hok
    · rename_i k' hu
      have hk := of_decide_eq_true hok
      subst hk
      obtain ⟨n, rfl, _, hw⟩ := DataW.trod_int hu h
      exact ⟨(n : Int), hw, rfl, dra_one rfl rfl (by simp only [DR])⟩
    · cases hok
  | .bool, fuel, t, cs, x, hok, h => by
    simp only [Ty.ok] at hok
    split at hok
    · rename_i hu
      obtain ⟨b, rfl, _⟩ := DataW.trod_bool hu h
      exact ⟨(b : Bool), trivial, rfl, dra_one rfl rfl (by simp only [DR])⟩
    · cases hok
  | .str, fuel, t, cs, x, hok, h => by
    simp only [Ty.ok] at hok
    split at hok
    · rename_i hu
      obtain ⟨s, rfl, _, hs⟩ := DataW.trod_string hu h
      refine ⟨(s.data.toList : List UInt8), ?_, rfl, dra_one rfl rfl (by simp only [DR])⟩
      simp only [Ty.wf]
      rw [Array.length_toList]; exact hs
    · cases hok
  | .struct fs, fuel, t, cs, x, hok, h => by
    simp only [Ty.ok] at hok
    split at hok
    · rename_i fields hu
      simp only [Bool.and_eq_true] at hok
      obtain ⟨hw, hf⟩ := hok
      have hw := Nat.eq_of_beq_eq_true hw
      obtain ⟨xs, n, rfl, _, hl, hxl, hx⟩ := DataW.trod_struct hu h
      have hall : ∀ (i : Nat) (f : Field), fields.toList[i]? = some f → ∃ y, DataW.trod enc P w 0 (fun _ => true) held n f.type ((cs.drop f.offset).take (P.cellsOf f.type)) = some y := fun i f hi => by
        rw [Array.getElem?_toList] at hi
        have hlt := (Array.getElem?_eq_some_iff.1 hi).1
        have := hx i f hi
        rw [List.getElem?_eq_getElem (by omega)] at this
        exact ⟨_, this⟩
      obtain ⟨v, h1, h2⟩ := Tys.reads fs n fields.toList 0 cs hf hall
      exact ⟨v, h1, by rw [hl, hw]; rfl, h2⟩
    · cases hok
  | .slice e, fuel, t, cs, x, hok, h => by
    simp only [Ty.ok] at hok
    split at hok
    · rename_i te hu
      simp only [Bool.and_eq_true, Nat.blt_eq] at hok
      obtain ⟨⟨hw, hw0⟩, he⟩ := hok
      have hw := Nat.eq_of_beq_eq_true hw
      rcases Go.Deep.open_slice hu h with ⟨rfl, _⟩ | ⟨a, len, cap, m, n, Dx, Pl, rfl, hb, hlc, hcm, hm, _, hi⟩
      · exact ⟨([] : List e.Val), ⟨by simp, fun a h => by simp at h⟩, rfl, dra_one rfl rfl (by simp only [DR]; exact .inl ⟨⟨_, rfl⟩, trivial⟩)⟩
      · have hlm : len ≤ m := by rw [hm]; split <;> omega
        have each : ∀ i, i < len → ∃ v : e.Val, e.wf v ∧ ∃ cs', w.cells? 0 (a.add (i * P.cellsOf te)) (P.cellsOf te) = some cs' ∧ DRA (allF w) w (fun j => cs'[j]?) 0 (e.cells v) := fun i hlt => by
          obtain ⟨cs', h1, h2⟩ := hi i (by omega)
          obtain ⟨v, q1, q2, q3⟩ := Ty.reads e n te cs' _ he h2
          exact ⟨v, q1, cs', h1, q3⟩
        have : ∃ V : Nat → e.Val, ∀ i, i < len → (e.wf (V i) ∧ ∃ cs', w.cells? 0 (a.add (i * P.cellsOf te)) (P.cellsOf te) = some cs' ∧ DRA (allF w) w (fun j => cs'[j]?) 0 (e.cells (V i))) :=
          ⟨fun i => if h : i < len then (each i h).choose else e.zero, fun i h => by
            simp only [h, dif_pos]
            exact (each i h).choose_spec⟩
        obtain ⟨V, hV⟩ := this
        refine ⟨((List.range len).map V : List e.Val), ⟨by simp; omega, fun v hv => ?_⟩, rfl, dra_one rfl rfl ?_⟩
        · simp only [List.mem_map, List.mem_range] at hv
          obtain ⟨i, hlt, rfl⟩ := hv
          exact (hV i hlt).1
        simp only [DR]
        simp only [if_true] at hm
        by_cases hc0 : cap = 0
        · have hl0 : len = 0 := by omega
          subst hl0 hc0
          exact .inl ⟨⟨_, rfl⟩, by simp⟩
        · obtain ⟨cs0, h0, _⟩ := hi 0 (by omega)
          rw [Nat.zero_mul, show a.add 0 = a by simp [Addr.add]] at h0
          obtain ⟨b, o, arr, ty, fz, ha, hh⟩ := row_of_cells h0 (by omega)
          have ha' : a = ⟨b, a.off, none⟩ := by subst ha; rfl
          refine .inr ⟨b, a.off, cap, arr, ty, fz, by rw [ha']; simp, by simpa using hlc, lt_of_heap hh, hh, fun i v hv => ?_⟩
          have hlt : i < len := by have := (List.getElem?_eq_some_iff.1 hv).1; simpa using this
          simp [hlt] at hv
          subst hv
          obtain ⟨_, cs', h1, h2⟩ := hV i hlt
          refine ⟨Ty.cells_len _ _, ?_⟩
          obtain ⟨_, hcl, hcc⟩ := World.cells?_some h1
          rw [DRA_iff] at h2 ⊢
          intro j c hj
          obtain ⟨u, p1, p2⟩ := h2 j c hj
          have hjl := (List.getElem?_eq_some_iff.1 hj).1
          rw [Ty.cells_len] at hjl
          refine ⟨u, ?_, p2⟩
          have h3 := hcc j (by omega)
          rw [Nat.zero_add] at p1
          rw [p1, ha', add_plain, add_plain] at h3
          simp only [World.cell?, hh] at h3
          rw [← hw]
          simpa using h3
    · cases hok
theorem Tys.reads : ∀ (ts : Tys) (n : Nat) (fields : List Field) (off : Nat) (cs : List Value), ts.ok P fields off = true → (∀ (i : Nat) (f : Field), fields[i]? = some f → ∃ y, DataW.trod enc P w 0 (fun _ => true) held n f.type ((cs.drop f.offset).take (P.cellsOf f.type)) = some y) → ∃ v : ts.Val, ts.wf v ∧ DRA (allF w) w (fun i => cs[i]?) off (ts.cells v)
  | .nil, n, fields, off, cs, hok, h => ⟨(), trivial, by simp only [Tys.cells, DRA]⟩
  | .cons t ts, n, fields, off, cs, hok, h => by
    simp only [Tys.ok] at hok
    split at hok
    · rename_i f fs
      simp only [Bool.and_eq_true] at hok
      obtain ⟨⟨⟨h1, h2⟩, h3⟩, h4⟩ := hok
      have h1 := Nat.eq_of_beq_eq_true h1
      have h2 := Nat.eq_of_beq_eq_true h2
      obtain ⟨y, hy⟩ := h 0 f rfl
      obtain ⟨v, q1, q2, q3⟩ := Ty.reads t n f.type _ y h3 hy
      obtain ⟨v2, r1, r2⟩ := Tys.reads ts n fs (off + t.width) cs h4 (fun i g hg => h (i + 1) g (by simpa using hg))
      refine ⟨(v, v2), ⟨q1, r1⟩, ?_⟩
      simp only [Tys.cells]
      refine dra_app ?_ (by rw [Ty.cells_len]; exact r2)
      rw [DRA_iff] at q3 ⊢
      intro i c hi
      obtain ⟨u, p1, p2⟩ := q3 i c hi
      have hlt := (List.getElem?_eq_some_iff.1 hi).1
      rw [Ty.cells_len] at hlt
      refine ⟨u, ?_, p2⟩
      rw [Nat.zero_add, List.getElem?_take, if_pos (by omega), List.getElem?_drop, h1] at p1
      exact p1
    · cases hok
end

/-- A type's value as one argument. -/
def Ty.top : (t : Ty) → t.Val → D
  | .int k, (n : Int) => .int k n
  | .bool, (b : Bool) => .bool b
  | .str, (s : List UInt8) => .str s
  | .struct fs, v => .agg (fs.cells v)
  | .slice e, (l : List e.Val) => .sl e.width e.cells e.zero l
theorem Ty.topReads {r : Reach} {b0 : Nat} : ∀ (ty : Ty) (t : TypeId) (v : Value) (d : DataW H) (ps : List MemPlace), ty.ok P t = true → Value.okWide P w r b0 t v → DataW.Trod enc P w 0 (fun _ => true) held t v d ps → ∃ x : ty.Val, ty.wf x ∧ DR (allF w) w (ty.top x) v := fun ty t v d ps hok hv h => by
  obtain ⟨fuel, h⟩ := h
  obtain ⟨x, h1, h2, h3⟩ := Ty.reads ty fuel t _ _ hok h
  refine ⟨x, h1, ?_⟩
  have one : ∀ (y : D), v.cells.toList = [v] → DRA (allF w) w (fun i => v.cells.toList[i]?) 0 [y] → DR (allF w) w y v := fun y e hd => by
    rw [e] at hd
    simp only [DRA] at hd
    obtain ⟨⟨u, hu, _, hd⟩, _⟩ := hd
    simp at hu; subst hu; exact hd
  cases ty with
  | int k =>
    simp only [Ty.ok] at hok
    split at hok
    · rename_i k' hu
      refine one _ ?_ h3
      cases v <;> first | rfl | (simp [Value.okWide, hu, Cell.okWide, Cell.ok] at hv)
    · cases hok
  | bool =>
    simp only [Ty.ok] at hok
    split at hok
    · rename_i hu
      refine one _ ?_ h3
      cases v <;> first | rfl | (simp [Value.okWide, hu, Cell.okWide, Cell.ok] at hv)
    · cases hok
  | str =>
    simp only [Ty.ok] at hok
    split at hok
    · rename_i hu
      refine one _ ?_ h3
      cases v <;> first | rfl | (simp [Value.okWide, hu, Cell.okWide, Cell.ok] at hv)
    · cases hok
  | struct fs =>
    simp only [Ty.ok] at hok
    split at hok
    · rename_i fields hu
      simp only [Value.okWide, hu] at hv
      obtain ⟨arr, rfl, hs, _⟩ := hv
      simp only [Ty.top, DR]
      refine ⟨arr, rfl, ?_, ?_⟩
      · have hc := Tys.cells_len fs x
        have h2' : arr.size = fs.width := by simpa [Value.cells, Ty.width] using h2
        exact h2'.trans hc.symm
      · rw [DRA_iff] at h3 ⊢
        intro i c hi
        obtain ⟨u, p1, p2⟩ := h3 i c hi
        exact ⟨u, by simpa [Value.cells] using p1, p2⟩
    · cases hok
  | slice e =>
    simp only [Ty.ok] at hok
    split at hok
    · rename_i te hu
      refine one _ ?_ h3
      cases v <;> first | rfl | (simp [Value.okWide, hu, Cell.okWide, Cell.ok] at hv)
    · cases hok

/-- All arguments. -/
def Tys.tops : (ts : Tys) → ts.Val → List D
  | .nil, _ => []
  | .cons t ts, v => t.top v.1 :: ts.tops v.2
def Tys.oks (P : Program) : Tys → List TypeId → Bool
  | .nil, l => match l with | [] => true | _ :: _ => false
  | .cons t ts, l => match l with | a :: r => Ty.ok P t a && Tys.oks P ts r | [] => false
theorem Tys.tops_len : ∀ (ts : Tys) (l : List TypeId) (v : ts.Val), ts.oks P l = true → (ts.tops v).length = l.length
  | .nil, [], _, _ => rfl
  | .nil, _ :: _, _, h => by simp [Tys.oks] at h
  | .cons t ts, [], _, h => by simp [Tys.oks] at h
  | .cons t ts, a :: r, v, h => by
    simp only [Tys.oks, Bool.and_eq_true] at h
    simp only [Tys.tops, List.length_cons, Tys.tops_len ts r v.2 h.2]
theorem Tys.topsRead {r : Reach} {b0 : Nat} : ∀ (tys : Tys) (ts : List TypeId) (vs : List Value) (ds : List (DataW H)) (ps : List MemPlace), tys.oks P ts = true → (∀ (j : Nat) t v, ts[j]? = some t → vs[j]? = some v → Value.okWide P w r b0 t v) → DataW.TrodAll enc P w 0 (fun _ => true) held ts vs ds ps → ∃ x : tys.Val, tys.wf x ∧ vs.length = ts.length ∧ ∀ g off, (∀ i, g (off + i) = vs[i]?) → DRT (allF w) w g off (tys.tops x)
  | .nil, [], vs, ds, ps, _, _, h => by
    cases vs <;> cases ds <;> first | (exact absurd h id) | exact ⟨(), trivial, rfl, fun g off _ => by simp only [Tys.tops, DRT]⟩
  | .nil, _ :: _, _, _, _, hok, _, _ => by simp [Tys.oks] at hok
  | .cons t ts, [], _, _, _, hok, _, _ => by simp [Tys.oks] at hok
  | .cons t ts, a :: r', vs, ds, ps, hok, hv, h => by
    simp only [Tys.oks, Bool.and_eq_true] at hok
    cases vs with
    | nil => cases ds <;> exact absurd h id
    | cons v vs =>
      cases ds with
      | nil => exact absurd h id
      | cons d ds =>
        obtain ⟨p, q, h1, h2, _⟩ := h
        obtain ⟨x, g1, g2⟩ := Ty.topReads t a v d p hok.1 (hv 0 a v rfl rfl) h1
        obtain ⟨y, k1, k2, k3⟩ := Tys.topsRead ts r' vs ds q hok.2 (fun j t' v' e1 e2 => hv (j + 1) t' v' (by simpa using e1) (by simpa using e2)) h2
        refine ⟨(x, y), ⟨g1, k1⟩, by simp [k2], fun g off hg => ?_⟩
        simp only [Tys.tops, DRT]
        refine ⟨⟨v, by simpa using hg 0, g2⟩, k3 g (off + 1) (fun i => ?_)⟩
        rw [Nat.add_assoc, Nat.add_comm 1 i, hg (i + 1)]; simp
end
end Go.Vw

/-
  From a contract on values of plain types to what a law's row asks of a call. Conditions: closed facts of the program's types.
-/
set_option linter.unusedSimpArgs false
set_option linter.unusedVariables false
namespace Go.Vw
open Go.ChangeShapes Go.WideShapes Go.ChangeAt Go.RowKit

/-- What a contract of data gives at the statement's arguments. -/
theorem post_below {H : Type} {enc : TypeId × Value → H} {P : Program} {f : Func} {s : ChangeSpec} {apart fresh handsOn again : Bool} {W W' : World} {args : Array Value} {v : Value} {ds gs : List (DataW H)} {before pa pv : List MemPlace}
    (hW : DataW.Whole enc P f.params.toList s.vars apart W args.toList ds gs before)
    (hres : ∀ (b : Nat) (sp : Nat → Bool) (hd : Bool), DataW.TrodAll enc P W' b sp hd f.resultTypes.toList (v.resultList f.resultTypes.size) (s.fn H (ds ++ gs)).results [])
    (hargs : ∀ sp : Nat → Bool, (∀ p ∈ before, sp p.block = true) → DataW.TrodAll enc P W' 0 sp true f.params.toList args.toList (s.fn H (ds ++ gs)).args pa)
    (hvars : ∀ sp : Nat → Bool, (∀ p ∈ before, sp p.block = true) → DataW.TrodVars enc P W' sp s.vars (s.fn H (ds ++ gs)).vars pv)
    (hps : before = pa ++ pv) (hb : Below W.heap.size W W')
    (hok : ∀ (j : Nat) (t : TypeId) (r : Value), f.resultTypes[j]? = some t → (v.resultList f.resultTypes.size)[j]? = some r → Value.okWide P W' .any 0 t r) :
    s.post enc P f apart fresh handsOn again W args v W' := by
  have hlt := hW.lt
  have hin : ∀ p ∈ before, (fun b => decide (b < W.heap.size)) p.block = true := fun p hp => decide_eq_true (hlt p hp)
  obtain ⟨_, _, _, _, _, hz, hn⟩ := id hW
  refine ⟨ds, gs, before, [], pa, pv, hW, hres _ _ _, hargs _ hin, hvars _ hin, hb.frame _, fun _ => ⟨hok, _, _, ([] ++ pa) ++ pv, ⟨[] ++ pa, pv, trodAll_append (hargs _ fun _ _ => rfl) (hres _ _ _), hvars _ fun _ _ => rfl, rfl, fun b off hp => ?_, fun ha => ?_⟩, fun p hp _ => ?_⟩⟩
  · have hp' : MemPlace.cell b off ∈ before := by rw [hps]; simpa using hp
    rw [hb.frozen (hlt _ hp')]
    exact hz b off hp'
  · have := hn ha
    rw [hps] at this
    simpa using this
  · rw [hps]; simpa using hp

theorem trodAll_stays {H : Type} {enc : TypeId × Value → H} {P : Program} {W W' : World} {sp' : Nat → Bool} (hl : laidOutB P = true) : ∀ {ts : List TypeId} {vs : List Value} {ds : List (DataW H)} {ps : List MemPlace}, (ts.all fun t => P.readableRec t && decide (t < P.types.size)) = true → DataW.TrodAll enc P W 0 (fun _ => true) true ts vs ds ps → (∀ p ∈ ps, W.sameAt W' p) → (∀ p ∈ ps, sp' p.block = true) → DataW.TrodAll enc P W' 0 sp' true ts vs ds ps
  | [], [], [], _, _, h, _, _ => h
  | [], _ :: _, _, _, _, h, _, _ => absurd h id
  | [], [], _ :: _, _, _, h, _, _ => absurd h id
  | _ :: _, [], _, _, _, h, _, _ => absurd h id
  | _ :: _, _ :: _, [], _, _, h, _, _ => absurd h id
  | t :: ts, v :: vs, d :: ds, _, ht, ⟨p, q, h1, h2, e⟩, hsame, hs => by
    subst e
    simp only [List.all_cons, Bool.and_eq_true, decide_eq_true_eq] at ht
    exact ⟨p, q, WideElems.Trod_stays hl ht.1.1 ht.1.2 h1 (fun x hx => hsame x (by simp [hx])) (fun x hx => hs x (by simp [hx])), trodAll_stays hl ht.2 h2 (fun x hx => hsame x (by simp [hx])) (fun x hx => hs x (by simp [hx])), rfl⟩

/-- **A law without variables of its own.** -/
theorem law_contract {P : Program} {f : FuncId} {fn : Func} {s : ChangeSpec} {rt : TypeId} (tys : Tys) (hl : laidOutB P = true) (hok : tys.oks P fn.params.toList = true) (hp : (fn.params.toList.all fun t => P.readableRec t && decide (t < P.types.size)) = true) (hv : s.vars = []) (hr : fn.resultTypes = #[rt]) (hrt : P.underlying rt = some .bool) (hc : ∀ x : tys.Val, tys.wf x → Ret P f (tys.tops x) (· = .bool true))
    (H : Type) (enc : TypeId × Value → H) (hs : ∀ ds : List (DataW H), ds.length = fn.params.toList.length → (s.fn H ds).results = [.lit (.bool true)] ∧ (s.fn H ds).args = ds ∧ (s.fn H ds).vars = [])
    (W : World) (base : Nat) (args : Array Value) (ds gs : List (DataW H)) (before : List MemPlace)
    (hval : ∀ (j : Nat) t v, fn.params[j]? = some t → args[j]? = some v → Value.okWide P W .any base t v)
    (hW : DataW.Whole enc P fn.params.toList s.vars false W args.toList ds gs before) :
    Calls P f args W fun e W' => ∃ v, e = .returned v ∧ s.post enc P fn false true false false W args v W' := by
  have hW' := hW
  have hlt := hW.lt
  obtain ⟨p, q, hA, hV, rfl, hfz, hnd⟩ := hW
  rw [hv] at hV
  obtain ⟨rfl, rfl⟩ := trodVars_none hV
  obtain ⟨x, hx, hlen, hd⟩ := Tys.topsRead tys fn.params.toList args.toList ds p hok (fun j t v h1 h2 => hval j t v (by simpa using h1) (by simpa using h2)) hA
  have hdl : ds.length = fn.params.toList.length := by
    have aux : ∀ (ts : List TypeId) (vs : List Value) (ds : List (DataW H)) (ps : List MemPlace), DataW.TrodAll enc P W 0 (fun _ => true) true ts vs ds ps → ds.length = ts.length := by
      intro ts
      induction ts with
      | nil => intro vs ds ps h; cases vs <;> cases ds <;> first | (exact absurd h id) | rfl
      | cons t ts ih =>
        intro vs ds ps h
        cases vs with
        | nil => cases ds <;> exact absurd h id
        | cons v vs => cases ds with
          | nil => exact absurd h id
          | cons d ds => obtain ⟨_, q, _, h2, _⟩ := h; simp [ih _ _ _ h2]
    exact aux _ _ _ _ hA
  obtain ⟨s1, s2, s3⟩ := hs ds hdl
  have ht := Tys.tops_len tys fn.params.toList x hok
  refine ((hc x hx).run (allF W) W args (fun b h => h) (by rw [ht, ← hlen]; simp) (hd _ 0 (fun i => by simp))).mono fun e W' ⟨v, r, F', he, hr', hb, _, _, hv'⟩ => ?_
  subst he hr'
  simp only [Vw.DR] at hv'
  subst hv'
  refine ⟨_, rfl, post_below (pa := p) (pv := []) hW' ?_ ?_ ?_ rfl hb ?_⟩
  · intro b sp hd'
    simp only [List.append_nil, s1, hr]
    exact trodAll_cons_mk (shut_bool hrt _) trodAll_mk0
  · intro sp hsp
    simp only [List.append_nil, s2]
    exact trodAll_stays hl hp hA (fun y hy => hb.same (hlt y (by simp [hy]))) (fun y hy => hsp y (by simp [hy]))
  · intro sp hsp
    simp only [List.append_nil, s3, hv]
    rfl
  · exact ok_one hr rfl (okWide_bool_mk hrt _)
end Go.Vw

/-
  A law's rational numbers and intervals as they come in. Conditions: as each says.
-/
set_option linter.unusedVariables false
set_option linter.unusedSimpArgs false
namespace Go.Vw
abbrev tU : Ty := .slice (.int .u32)
abbrev tInt : Ty := .struct (.cons .bool (.cons tU .nil))
abbrev tRat : Ty := .struct (.cons tInt (.cons tU .nil))
abbrev tItv : Ty := .struct (.cons tRat (.cons tRat .nil))
def toN (l : List Int) : List Nat := l.map Int.toNat
theorem toN_len (l : List Int) : (toN l).length = l.length := List.length_map ..
theorem u32_wf {z : Int} (h : (Lit.int .u32 z).wf = true) : 0 ≤ z ∧ z < 4294967296 := by
  simp [Lit.wf, IntKind.min, IntKind.max, IntKind.signed, IntKind.bits] at h
  omega
theorem leU {l : List Int} (h : ∀ z ∈ l, (Lit.int .u32 z).wf = true) : LeD (.sl 1 (Ty.int .u32).cells (0 : Int) l) (u32s (toN l)) := by
  refine LeD.sl (toN_len l).symm fun i (a : Int) b (ha : (l[i]? : Option Int) = some a) hb => ⟨rfl, ?_⟩
  have hm : a ∈ l := List.mem_of_getElem? ha
  have hw := u32_wf (h a hm)
  unfold toN at hb
  rw [List.getElem?_map, ha] at hb
  simp only [Option.map_some, Option.some.injEq] at hb
  subst hb
  exact leN hw.1
theorem wf_toN {l : List Int} (h : ∀ z ∈ l, (Lit.int .u32 z).wf = true) : WF (toN l) := by
  intro x hx
  unfold toN at hx
  obtain ⟨z, hz, rfl⟩ := List.mem_map.1 hx
  have := u32_wf (h z hz)
  show z.toNat < 4294967296
  omega
abbrev vRat : Type := (Bool × List Int × Unit) × List Int × Unit
abbrev vItv : Type := vRat × vRat × Unit
def toR (x : vRat) : R3 := (x.1.1, toN x.1.2.1, toN x.2.1)
def wfRat (x : vRat) : Prop := (x.1.2.1.length ≤ maxLen ∧ ∀ z ∈ x.1.2.1, (Lit.int .u32 z).wf = true) ∧ (x.2.1.length ≤ maxLen ∧ ∀ z ∈ x.2.1, (Lit.int .u32 z).wf = true)
def wfItv (x : vItv) : Prop := wfRat x.1 ∧ wfRat x.2.1
theorem wfRat_of {x : vRat} (h : Ty.wf tRat x) : wfRat x := ⟨h.1.2.1, h.2.1⟩
theorem wfItv_of {x : vItv} (h : Ty.wf tItv x) : wfItv x := ⟨wfRat_of h.1, wfRat_of h.2.1⟩
theorem leRat {x : vRat} (h : wfRat x) : LeL (Ty.cells tRat x) (rC (toR x)) :=
  LeL.cons (LeD.refl _) (LeL.cons (leU h.1.2) (LeL.cons (leU h.2.2) LeL.nil))
theorem leRatD {x : vRat} (h : wfRat x) : LeD (Ty.top tRat x) (rD (toR x)) := LeD.agg (leRat h)
theorem leItvD {x : vItv} (h : wfItv x) : LeD (Ty.top tItv x) (iD (toR x.1) (toR x.2.1)) :=
  LeD.agg (LeL.cons (LeD.refl _) (LeL.cons (leU h.1.1.2) (LeL.cons (leU h.1.2.2) (LeL.cons (LeD.refl _) (LeL.cons (leU h.2.1.2) (LeL.cons (leU h.2.2.2) LeL.nil))))))
/-- A number as it comes in: any limbs, of any length. -/
structure RawR (r : R3) : Prop where
  wm : WF r.2.1
  wd : WF r.2.2
  lm : r.2.1.length ≤ 9223372036854775807
  ld : r.2.2.length ≤ 9223372036854775807
def lightR (r : R3) : Bool := decide (r.2.1.length ≤ 8) && decide (r.2.2.length ≤ 8)
theorem RawR.light {r : R3} (h : RawR r) (hl : lightR r = true) : RatOk r 9 := by
  unfold lightR at hl
  rw [Bool.and_eq_true, decide_eq_true_eq, decide_eq_true_eq] at hl
  exact ⟨h.wm, h.wd, Nat.lt_succ_of_le hl.1, Nat.lt_succ_of_le hl.2⟩
theorem rawR {x : vRat} (h : wfRat x) : RawR (toR x) :=
  ⟨wf_toN h.1.2, wf_toN h.2.2, by show (toN _).length ≤ _; rw [toN_len]; exact h.1.1, by show (toN _).length ≤ _; rw [toN_len]; exact h.2.1⟩
def loR (x : vItv) : R3 := toR x.1
def hiR (x : vItv) : R3 := toR x.2.1
theorem rawLo {x : vItv} (h : wfItv x) : RawR (loR x) := rawR h.1
theorem rawHi {x : vItv} (h : wfItv x) : RawR (hiR x) := rawR h.2
theorem leItv {x : vItv} (h : wfItv x) : LeD (Ty.top tItv x) (iD (loR x) (hiR x)) := leItvD h
theorem i64_wf {z : Int} (h : (Lit.int .i64 z).wf = true) : -9223372036854775808 ≤ z ∧ z < 9223372036854775808 := by
  simp [Lit.wf, IntKind.min, IntKind.max, IntKind.signed, IntKind.bits] at h
  omega
/-- A list of numbers as it comes in. -/
def toRs (l : List vRat) : List R3 := l.map toR
theorem leRatsD {l : List vRat} (h : Ty.wf (.slice tRat) l) : LeD (Ty.top (.slice tRat) l) (rsD (toRs l)) := by
  refine LeD.sl (List.length_map ..).symm fun i (a : vRat) b (ha : (l[i]? : Option vRat) = some a) hb => ⟨rfl, ?_⟩
  have hm : a ∈ l := List.mem_of_getElem? ha
  unfold toRs at hb
  rw [List.getElem?_map, ha] at hb
  have e : toR a = b := Option.some.inj hb
  subst e
  exact leRat (wfRat_of (h.2 a hm))
theorem rawRs {l : List vRat} (h : Ty.wf (.slice tRat) l) : ∀ r ∈ toRs l, RawR r := by
  intro r hr
  unfold toRs at hr
  obtain ⟨a, ha, rfl⟩ := List.mem_map.1 hr
  exact rawR (wfRat_of (h.2 a ha))
theorem lenRs {l : List vRat} (h : Ty.wf (.slice tRat) l) : (toRs l).length ≤ 9223372036854775807 := by
  unfold toRs
  rw [List.length_map]; exact h.1
theorem u8_wf {z : Int} (h : (Lit.int .u8 z).wf = true) : 0 ≤ z ∧ z < 256 := by
  simp [Lit.wf, IntKind.min, IntKind.max, IntKind.signed, IntKind.bits] at h
  omega
end Go.Vw

set_option linter.unusedVariables false
set_option linter.unusedSimpArgs false
set_option maxHeartbeats 4000000
namespace Go.Proofs.YtfnckkfbnnbmkaaGreat
open Go.Vw
attribute [local irreducible] awp awpL awpR Int.decLt Int.decLe Int.instDecidableEq

theorem integer_ToIntN (n : Nat) (h : n < 9223372036854775808) : Ret Tryz.prog 72 [zD (n : Int)] (· = .tup [.int .i64 n, .bool true]) := by
  have ln := u64_len (v := n) (by omega)
  have hv := integer_valueZ (n : Int) (by rw [Int.natAbs_natCast]; omega)
  rw [zD_nat] at hv ⊢
  have hu := natural_UintN n (by omega)
  rw [if_pos (by omega)] at hu
  refine ret_of_awp tab Tryz.func72 rfl rfl (Nat.le_of_ble_eq_true rfl) (fun w0 F0 => ?_)
  repeat' (first
    | (show awpL _ _ _ _ _; first | refine goL ?_ | refine cl 110 tt rfl rfl rfl (hr := hv) (k := ?_) | refine cl 111 tt rfl rfl rfl (hr := hu) (k := ?_) | (refine gdLG ?_ ?_ <;> intro _ <;> try (exfalso; omega)))
    | (show awp _ _ _ _; first | refine goA ?_ | (refine cdG ?_ ?_ <;> intro _ <;> try (exfalso; omega)))
    | (show andThen _ _ _ _; refine goN ?_)
    | (show inBlock _ _ _ _; refine goB ?_)
    | (show retPost _ _ _ _ _; refine finG ?_))
  rfl
theorem ref01_UintN (n : Nat) (h : n < 18446744073709551616) : Ret Tryz.prog 116 [u32s (limbs n)] (· = .tup [.int .u64 n, .bool true]) := by
  have ln := u64_len h
  have ht := ref01_TakeN n (by omega)
  have vl := val_limbs n
  have wl := wf_limbs n
  generalize limbs n = p at *
  refine ret_of_awp tab Tryz.func116 rfl rfl (Nat.le_of_ble_eq_true rfl) (fun w0 F0 => ?_)
  repeat' (first
    | (show awpL _ _ _ _ _; first | refine goL ?_ | refine cl 91 tt rfl rfl rfl (hr := ht) (k := ?_) | (refine gdLG ?_ ?_ <;> intro _ <;> try (exfalso; omega)))
    | (show awp _ _ _ _; first | refine goA ?_ | (refine cdG ?_ ?_ <;> intro _ <;> try (exfalso; omega)))
    | (show andThen _ _ _ _; refine goN ?_)
    | (show inBlock _ _ _ _; refine goB ?_)
    | (show retPost _ _ _ _ _; refine finG ?_))
  refine awp_loop1 (fun (j : Nat) => ([(0, .d (u32s p)), (4, .d (.int .u64 (val (p.drop j)))), (5, .d (.int .i64 ((j : Int) - 1)))], [])) (fun j => j ≤ p.length) (fun j => j) p.length (Nat.le_refl _) ⟨rfl, by rw [List.drop_length]; rfl, rfl, rfl⟩ trivial (fun j hj => ?_)
  by_cases hin : 0 < j
  · obtain ⟨i, rfl⟩ : ∃ i, j = i + 1 := ⟨j - 1, by omega⟩
    have gp := wl.getD i
    rw [B_val] at gp
    have hds : p.drop i = p.getD i 0 :: p.drop (i + 1) := by
      rw [List.drop_eq_getElem_cons (show i < p.length by omega), List.getD_eq_getElem?_getD, List.getElem?_eq_getElem (show i < p.length by omega)]; rfl
    have hv : val (p.drop (i + 1)) < 4294967296 := by
      have h1 := val_lt (wl.drop (i + 1))
      have h2 : (p.drop (i + 1)).length ≤ 1 := by simp; omega
      have h3 := Nat.pow_le_pow_right (show 0 < B by decide) h2
      rw [Nat.pow_one] at h3
      exact Nat.lt_of_lt_of_le h1 h3
    have hor := or_two (a := val (p.drop (i + 1))) gp
    have e1 : ((((i + 1 : Nat) : Int)) - 1).toNat = i := by omega
    repeat' (first
      | (show awpL _ _ _ _ _; first | refine goL ?_ | (refine gdLG ?_ ?_ <;> intro _ <;> try (exfalso; omega)))
      | (show awp _ _ _ _; first | refine goA ?_ | (refine cdG ?_ ?_ <;> intro _ <;> try (exfalso; omega)))
      | (show andThen _ _ _ _; refine goN ?_)
      | (show inBlock _ _ _ _; refine goB ?_)
      | (show retPost _ _ _ _ _; refine finG ?_))
    refine ⟨i, by omega, by omega, ⟨rfl, iv ?_, iv (by omega), rfl⟩, trivial⟩
    rw [hds, val, e1, Nat.or_comm, Int.emod_eq_of_lt (by omega) (by omega), hor]
  · have : j = 0 := by omega
    subst this
    rw [List.drop_zero, vl]
    repeat' (first
      | (show awpL _ _ _ _ _; first | refine goL ?_ | (refine gdLG ?_ ?_ <;> intro _ <;> try (exfalso; omega)))
      | (show awp _ _ _ _; first | refine goA ?_ | (refine cdG ?_ ?_ <;> intro _ <;> try (exfalso; omega)))
      | (show andThen _ _ _ _; refine goN ?_)
      | (show inBlock _ _ _ _; refine goB ?_)
      | (show retPost _ _ _ _ _; refine finG ?_))
    rfl
end Go.Proofs.YtfnckkfbnnbmkaaGreat

/-
  Intervals of rational numbers: the two ways to the same results. Conditions: as each says.
-/
set_option linter.unusedVariables false
set_option linter.unusedSimpArgs false
namespace Go.Vw
@[reducible] def iC (a b : R3) : List D := [.bool a.1, u32s a.2.1, u32s a.2.2, .bool b.1, u32s b.2.1, u32s b.2.2]
/-- A new variable of an interval; of a number. -/
abbrev zR3 : List V := [.d (.bool false), .d .nils, .d .nils]
abbrev zI : List V := [.d (.bool false), .d .nils, .d .nils, .d (.bool false), .d .nils, .d .nils]
theorem leQs (l : List Rat) : LeD (rsD (l.map rq)) (qsD l) := LeD.sl (by simp) fun i a b ha hb => by
  rw [List.getElem?_map, hb] at ha
  have e : rq b = a := Option.some.inj ha
  subst e
  exact ⟨rfl, LeL.refl _⟩
theorem minQ_self (x : Rat) : minQ x x = x := by unfold minQ; split <;> rfl
theorem maxQ_self (x : Rat) : maxQ x x = x := by unfold maxQ; split <;> rfl
theorem withinI_eq {i j : I2} (h : i.1 ≤ i.2) : (containsI j i.1 && containsI j i.2) = withinI i j := by
  unfold containsI withinI
  by_cases h1 : j.1 ≤ i.1 <;> by_cases h2 : i.2 ≤ j.2
  · have h3 : i.1 ≤ j.2 := Rat.le_trans h h2
    have h4 : j.1 ≤ i.2 := Rat.le_trans h1 h
    simp [h1, h2, h3, h4]
  · simp [h2]
  · simp [h1]
  · simp [h1]
theorem rv_r0 : rv r0 = 0 := by rw [← rq_zero, rv_rq]
theorem ok_r0 {k : Nat} (h : 1 < k) : RatOk r0 k := by
  have h0 : (0 : Nat) < k := Nat.lt_of_succ_lt h
  exact ⟨by intro x hx; exact absurd hx (by simp [r0]), by intro x hx; exact absurd hx (by simp [r0]), by simpa [r0] using h0, by simpa [r0] using h0⟩
theorem minQ_comm (x y : Rat) : minQ x y = minQ y x := by unfold minQ; split <;> split <;> grind
theorem maxQ_comm (x y : Rat) : maxQ x y = maxQ y x := by unfold maxQ; split <;> split <;> grind
theorem minQ_swap (x y z : Rat) : minQ (minQ x y) z = minQ (minQ x z) y := by unfold minQ; split <;> split <;> grind
theorem maxQ_swap (x y z : Rat) : maxQ (maxQ x y) z = maxQ (maxQ x z) y := by unfold maxQ; split <;> split <;> grind
def divRef (a b : I2) : I2 := hullL (a.1 / b.1) [a.1 / b.2, a.2 / b.1, a.2 / b.2]
theorem divRef_eq (a b : I2) : divRef a b = divI a b := by
  unfold divRef divI mulI hullL
  simp only [List.foldl_cons, List.foldl_nil, Rat.div_def, Rat.one_mul]
  rw [minQ_comm (a.1 * b.1⁻¹), maxQ_comm (a.1 * b.1⁻¹), minQ_swap _ (a.2 * b.1⁻¹), maxQ_swap _ (a.2 * b.1⁻¹)]
def sqRef (a : I2) : I2 := if containsI a 0 then hullL 0 [a.1 * a.1, a.2 * a.2] else hullL (a.1 * a.1) [a.2 * a.2]
theorem sqRef_eq (a : I2) : sqRef a = sqI a := by
  unfold sqRef sqI
  split
  · have h1 := square_nonneg a.1
    have h2 := square_nonneg a.2
    unfold hullL
    simp only [List.foldl_cons, List.foldl_nil]
    generalize a.1 * a.1 = x at *
    generalize a.2 * a.2 = y at *
    refine Prod.ext ?_ ?_
    · show minQ (minQ 0 x) y = 0
      unfold minQ; (repeat' split) <;> grind
    · show maxQ (maxQ 0 x) y = maxQ x y
      unfold maxQ; (repeat' split) <;> grind
  · rfl
/-- 2 to the power of bits. -/
def twoQ (n : Nat) : Rat := ((2 ^ n : Nat) : Int)
theorem twoQ_ne (n : Nat) : twoQ n ≠ 0 := by
  have h : (2 : Nat) ^ n ≠ 0 := Nat.ne_of_gt (Nat.two_pow_pos n)
  unfold twoQ
  intro hc
  have hh : (((2 ^ n : Nat) : Int) : Rat) = ((0 : Int) : Rat) := hc
  have := Rat.intCast_inj.1 hh
  omega
def rootN (v : Rat) (n : Nat) : Nat := rt (v * (twoQ n * twoQ n)).floor.natAbs
def rootLo (v : Rat) (n : Nat) : Rat := ((rootN v n : Nat) : Int) / twoQ n
def rootI (v : Rat) (n : Nat) : I2 := if rootLo v n * rootLo v n = v then (rootLo v n, rootLo v n) else (rootLo v n, rootLo v n + 1 / twoQ n)
theorem rootHi_eq (v : Rat) (n : Nat) : (((rootN v n : Nat) : Int) + 1 : Int) / twoQ n = rootLo v n + 1 / twoQ n := by
  unfold rootLo
  rw [Rat.div_def, Rat.div_def, Rat.div_def, Rat.one_mul, Rat.intCast_add, Rat.add_mul]
  congr 1
  exact Rat.one_mul _
end Go.Vw

/-
  Intervals of rational numbers: what holds of the results of the operations. Conditions: as each says.
-/
set_option linter.unusedVariables false
set_option linter.unusedSimpArgs false
namespace Go.Vw
/-- A number lies in an interval. -/
def In (i : I2) (v : Rat) : Prop := i.1 ≤ v ∧ v ≤ i.2
theorem containsI_iff {i : I2} {v : Rat} : containsI i v = true ↔ In i v := by unfold containsI In; simp
theorem withinI_iff {i j : I2} : withinI i j = true ↔ j.1 ≤ i.1 ∧ i.2 ≤ j.2 := by unfold withinI; simp
theorem withinI_of {i j : I2} (h1 : In j i.1) (h2 : In j i.2) : withinI i j = true := withinI_iff.2 ⟨h1.1, h2.2⟩
theorem In.mono {i j : I2} {v : Rat} (h : withinI i j = true) (hv : In i v) : In j v := by
  have := withinI_iff.1 h
  exact ⟨Rat.le_trans this.1 hv.1, Rat.le_trans hv.2 this.2⟩
theorem foldl_minQ_le : ∀ (l : List Rat) (m : Rat), l.foldl minQ m ≤ m ∧ ∀ x ∈ l, l.foldl minQ m ≤ x
  | [], m => ⟨Rat.le_refl, by simp⟩
  | x :: l, m => by
    have h := foldl_minQ_le l (minQ m x)
    have h2 := minQ_le m x
    refine ⟨Rat.le_trans h.1 h2.1, ?_⟩
    intro y hy
    rcases List.mem_cons.1 hy with e | e
    · rw [e]; exact Rat.le_trans h.1 h2.2
    · exact h.2 y e
theorem foldl_maxQ_le : ∀ (l : List Rat) (m : Rat), m ≤ l.foldl maxQ m ∧ ∀ x ∈ l, x ≤ l.foldl maxQ m
  | [], m => ⟨Rat.le_refl, by simp⟩
  | x :: l, m => by
    have h := foldl_maxQ_le l (maxQ m x)
    have h2 := maxQ_le m x
    refine ⟨Rat.le_trans h2.1 h.1, ?_⟩
    intro y hy
    rcases List.mem_cons.1 hy with e | e
    · rw [e]; exact Rat.le_trans h2.2 h.1
    · exact h.2 y e
theorem minQ_mem (x y : Rat) : minQ x y = x ∨ minQ x y = y := by unfold minQ; split <;> simp
theorem maxQ_mem (x y : Rat) : maxQ x y = x ∨ maxQ x y = y := by unfold maxQ; split <;> simp
theorem foldl_minQ_mem : ∀ (l : List Rat) (m : Rat), l.foldl minQ m ∈ m :: l
  | [], m => by simp
  | x :: l, m => by
    have h := foldl_minQ_mem l (minQ m x)
    rw [List.foldl_cons]
    rcases List.mem_cons.1 h with e | e
    · rw [e]; rcases minQ_mem m x with e | e <;> rw [e] <;> simp
    · simp [e]
theorem foldl_maxQ_mem : ∀ (l : List Rat) (m : Rat), l.foldl maxQ m ∈ m :: l
  | [], m => by simp
  | x :: l, m => by
    have h := foldl_maxQ_mem l (maxQ m x)
    rw [List.foldl_cons]
    rcases List.mem_cons.1 h with e | e
    · rw [e]; rcases maxQ_mem m x with e | e <;> rw [e] <;> simp
    · simp [e]
theorem hullL_in {x : Rat} {l : List Rat} : ∀ v ∈ x :: l, In (hullL x l) v := by
  intro v hv
  have h1 := foldl_minQ_le l x
  have h2 := foldl_maxQ_le l x
  rcases List.mem_cons.1 hv with e | e
  · rw [e]; exact ⟨h1.1, h2.1⟩
  · exact ⟨h1.2 v e, h2.2 v e⟩
theorem hullL_lo (x : Rat) (l : List Rat) : (hullL x l).1 ∈ x :: l := foldl_minQ_mem l x
theorem hullL_hi (x : Rat) (l : List Rat) : (hullL x l).2 ∈ x :: l := foldl_maxQ_mem l x
theorem hullL_inc (x : Rat) (l : List Rat) : (hullL x l).1 ≤ (hullL x l).2 := hullL_le l x x Rat.le_refl
theorem mulR {a b c : Rat} (h : a ≤ b) (hc : 0 ≤ c) : a * c ≤ b * c := Rat.mul_le_mul_of_nonneg_right h hc
theorem mulRn {a b c : Rat} (h : a ≤ b) (hc : c ≤ 0) : b * c ≤ a * c := by
  have := Rat.mul_le_mul_of_nonneg_right (c := -c) h (by grind)
  grind
/-- A product lies between the products with the ends. -/
theorem lin {m n x y a b : Rat} (h1 : a ≤ x) (h2 : x ≤ b) (ha : m ≤ a * y ∧ a * y ≤ n) (hb : m ≤ b * y ∧ b * y ≤ n) : m ≤ x * y ∧ x * y ≤ n := by
  rcases Rat.le_total (a := 0) (b := y) with h | h
  · exact ⟨Rat.le_trans ha.1 (mulR h1 h), Rat.le_trans (mulR h2 h) hb.2⟩
  · exact ⟨Rat.le_trans hb.1 (mulRn h2 h), Rat.le_trans (mulRn h1 h) ha.2⟩
theorem in_mulI {a b : I2} {x y : Rat} (hx : In a x) (hy : In b y) : In (mulI a b) (x * y) := by
  have hc : ∀ v ∈ [a.1 * b.1, a.1 * b.2, a.2 * b.1, a.2 * b.2], In (mulI a b) v := hullL_in
  have c1 := hc (a.1 * b.1) (by simp)
  have c2 := hc (a.1 * b.2) (by simp)
  have c3 := hc (a.2 * b.1) (by simp)
  have c4 := hc (a.2 * b.2) (by simp)
  unfold In at *
  have k1 := lin hy.1 hy.2 (y := a.1) (m := (mulI a b).1) (n := (mulI a b).2) (by rw [Rat.mul_comm]; exact c1) (by rw [Rat.mul_comm]; exact c2)
  have k2 := lin hy.1 hy.2 (y := a.2) (m := (mulI a b).1) (n := (mulI a b).2) (by rw [Rat.mul_comm]; exact c3) (by rw [Rat.mul_comm]; exact c4)
  exact lin hx.1 hx.2 (by rw [Rat.mul_comm]; exact k1) (by rw [Rat.mul_comm]; exact k2)
theorem in_lo {a : I2} (h : a.1 ≤ a.2) : In a a.1 := ⟨Rat.le_refl, h⟩
theorem in_hi {a : I2} (h : a.1 ≤ a.2) : In a a.2 := ⟨h, Rat.le_refl⟩
theorem mulI_ends {a b : I2} (ha : a.1 ≤ a.2) (hb : b.1 ≤ b.2) : (∃ x y, In a x ∧ In b y ∧ (mulI a b).1 = x * y) ∧ (∃ x y, In a x ∧ In b y ∧ (mulI a b).2 = x * y) := by
  have key : ∀ v ∈ [a.1 * b.1, a.1 * b.2, a.2 * b.1, a.2 * b.2], ∃ x y, In a x ∧ In b y ∧ v = x * y := by
    intro v hv
    simp only [List.mem_cons, List.not_mem_nil, or_false] at hv
    rcases hv with h | h | h | h
    · exact ⟨_, _, in_lo ha, in_lo hb, h⟩
    · exact ⟨_, _, in_lo ha, in_hi hb, h⟩
    · exact ⟨_, _, in_hi ha, in_lo hb, h⟩
    · exact ⟨_, _, in_hi ha, in_hi hb, h⟩
  exact ⟨key _ (hullL_lo _ _), key _ (hullL_hi _ _)⟩
theorem mulI_le (a b : I2) : (mulI a b).1 ≤ (mulI a b).2 := hullL_inc _ _
theorem within_mul {a b c : I2} (ha : a.1 ≤ a.2) (hb : b.1 ≤ b.2) (h : withinI a c = true) : withinI (mulI a b) (mulI c b) = true := by
  obtain ⟨⟨x, y, hx, hy, e1⟩, ⟨u, v, hu, hv, e2⟩⟩ := mulI_ends ha hb
  refine withinI_of ?_ ?_
  · rw [e1]; exact in_mulI (hx.mono h) hy
  · rw [e2]; exact in_mulI (hu.mono h) hv
theorem within_add {a b c : I2} (h : withinI a c = true) : withinI (addI a b) (addI c b) = true := by
  have := withinI_iff.1 h
  refine withinI_iff.2 ?_
  unfold addI
  constructor <;> simp only <;> grind
theorem within_sub {a b c : I2} (h : withinI a c = true) : withinI (subI a b) (subI c b) = true := by
  have := withinI_iff.1 h
  refine withinI_iff.2 ?_
  unfold subI
  constructor <;> simp only <;> grind
theorem addI_le {a b : I2} (ha : a.1 ≤ a.2) (hb : b.1 ≤ b.2) : (addI a b).1 ≤ (addI a b).2 := by unfold addI; simp only; grind
theorem subI_le {a b : I2} (ha : a.1 ≤ a.2) (hb : b.1 ≤ b.2) : (subI a b).1 ≤ (subI a b).2 := by unfold subI; simp only; grind
theorem in_add {a b : I2} {x y : Rat} (hx : In a x) (hy : In b y) : In (addI a b) (x + y) := by
  unfold In addI at *; simp only; constructor <;> grind
theorem in_sub {a b : I2} {x y : Rat} (hx : In a x) (hy : In b y) : In (subI a b) (x - y) := by
  unfold In subI at *; simp only; constructor <;> grind
theorem sqI_ends {a : I2} (ha : a.1 ≤ a.2) : (∃ x, In a x ∧ (sqI a).1 = x * x) ∧ (∃ x, In a x ∧ (sqI a).2 = x * x) := by
  have key : ∀ v ∈ [a.1 * a.1, a.2 * a.2], ∃ x, In a x ∧ v = x * x := by
    intro v hv
    simp only [List.mem_cons, List.not_mem_nil, or_false] at hv
    rcases hv with h | h
    · exact ⟨_, in_lo ha, h⟩
    · exact ⟨_, in_hi ha, h⟩
  unfold sqI
  split
  · rename_i h
    exact ⟨⟨0, containsI_iff.1 h, by show (0 : Rat) = 0 * 0; rw [Rat.mul_zero]⟩, key _ (hullL_hi _ _)⟩
  · exact ⟨key _ (hullL_lo _ _), key _ (hullL_hi _ _)⟩
theorem sq_le {x y : Rat} (hx : 0 ≤ x) (h : x ≤ y) : x * x ≤ y * y := by
  have h1 := mulR h hx
  have h2 := mulR h (Rat.le_trans hx h)
  have h3 := Rat.mul_comm x y
  grind
theorem sq_le_neg {x y : Rat} (hx : x ≤ 0) (h : y ≤ x) : x * x ≤ y * y := by
  have := sq_le (x := -x) (y := -y) (by grind) (by grind)
  grind
theorem in_sqI {a : I2} {x : Rat} (hx : In a x) : In (sqI a) (x * x) := by
  have hc : ∀ v ∈ [a.1 * a.1, a.2 * a.2], In (hullL (a.1 * a.1) [a.2 * a.2]) v := hullL_in
  have c1 := hc (a.1 * a.1) (by simp)
  have c2 := hc (a.2 * a.2) (by simp)
  have hup : x * x ≤ (hullL (a.1 * a.1) [a.2 * a.2]).2 := by
    rcases Rat.le_total (a := 0) (b := x) with h | h
    · exact Rat.le_trans (sq_le h hx.2) c2.2
    · exact Rat.le_trans (sq_le_neg h hx.1) c1.2
  unfold sqI
  split
  · exact ⟨square_nonneg x, hup⟩
  · rename_i h
    refine ⟨?_, hup⟩
    have hn : ¬ In a 0 := fun hc => h (containsI_iff.2 hc)
    rcases Rat.le_total (a := 0) (b := a.1) with h0 | h0
    · exact Rat.le_trans c1.1 (sq_le h0 hx.1)
    · have h2 : a.2 ≤ 0 := by
        rcases Rat.le_total (a := a.2) (b := 0) with h3 | h3
        · exact h3
        · exact absurd ⟨h0, h3⟩ hn
      exact Rat.le_trans c2.1 (sq_le_neg h2 hx.2)
theorem sqI_le {a : I2} (ha : a.1 ≤ a.2) : (sqI a).1 ≤ (sqI a).2 := by
  obtain ⟨_, ⟨x, hx, e⟩⟩ := sqI_ends ha
  rw [e]; exact (in_sqI hx).1
theorem within_sq {a c : I2} (ha : a.1 ≤ a.2) (h : withinI a c = true) : withinI (sqI a) (sqI c) = true := by
  obtain ⟨⟨x, hx, e1⟩, ⟨u, hu, e2⟩⟩ := sqI_ends ha
  refine withinI_of ?_ ?_
  · rw [e1]; exact in_sqI (hx.mono h)
  · rw [e2]; exact in_sqI (hu.mono h)
theorem within_sq_mul {a : I2} (ha : a.1 ≤ a.2) : withinI (sqI a) (mulI a a) = true := by
  obtain ⟨⟨x, hx, e1⟩, ⟨u, hu, e2⟩⟩ := sqI_ends ha
  refine withinI_of ?_ ?_
  · rw [e1]; exact in_mulI hx hx
  · rw [e2]; exact in_mulI hu hu
theorem inv_anti {x y : Rat} (hx : 0 < x) (h : x ≤ y) : 1 / y ≤ 1 / x := by
  have hy : 0 < y := by grind
  have hxi : 0 < x⁻¹ := Rat.inv_pos.2 hx
  have hyi : 0 < y⁻¹ := Rat.inv_pos.2 hy
  have h1 := mulR (mulR h (Rat.le_of_lt hxi)) (Rat.le_of_lt hyi)
  have e1 : x * x⁻¹ = 1 := Rat.mul_inv_cancel x (Rat.ne_of_gt hx)
  have e2 : y * y⁻¹ = 1 := Rat.mul_inv_cancel y (Rat.ne_of_gt hy)
  rw [Rat.div_def, Rat.div_def, Rat.one_mul, Rat.one_mul]
  rw [e1, Rat.one_mul, Rat.mul_assoc, Rat.mul_comm x⁻¹, ← Rat.mul_assoc, e2, Rat.one_mul] at h1
  exact h1
theorem div_neg' (x : Rat) : 1 / (-x) = -(1 / x) := by
  rw [Rat.div_def, Rat.div_def, Rat.one_mul, Rat.one_mul]
  by_cases h : x = 0
  · rw [h]; simp
  · apply Rat.inv_eq_of_mul_eq_one
    have := Rat.mul_inv_cancel x h
    grind
theorem in_inv {b : I2} {y : Rat} (h0 : containsI b 0 = false) (hy : In b y) : y ≠ 0 ∧ In (1 / b.2, 1 / b.1) (1 / y) := by
  have hn : ¬ In b 0 := fun hc => by rw [containsI_iff.2 hc] at h0; exact absurd h0 (by decide)
  rcases Rat.le_total (a := b.1) (b := 0) with h | h
  · have h2 : b.2 < 0 := by
      rcases Rat.le_total (a := 0) (b := b.2) with h3 | h3
      · exact absurd ⟨h, h3⟩ hn
      · refine Rat.lt_of_le_of_ne h3 (fun e => hn ⟨h, by rw [e]; exact Rat.le_refl⟩)
    have hy0 : y < 0 := by have := hy.2; grind
    have k1 := inv_anti (x := -b.2) (y := -y) (by grind) (by have := hy.2; grind)
    have k2 := inv_anti (x := -y) (y := -b.1) (by grind) (by have := hy.1; grind)
    rw [div_neg', div_neg'] at k1 k2
    exact ⟨Rat.ne_of_lt hy0, by show 1 / b.2 ≤ 1 / y; grind, by show 1 / y ≤ 1 / b.1; grind⟩
  · have h1 : 0 < b.1 := by
      refine Rat.lt_of_le_of_ne h (fun e => hn ⟨by rw [← e]; exact Rat.le_refl, ?_⟩)
      exact Rat.le_trans h (Rat.le_trans hy.1 hy.2)
    have hy0 : 0 < y := by have := hy.1; grind
    exact ⟨Rat.ne_of_gt hy0, inv_anti hy0 hy.2, inv_anti h1 hy.1⟩
theorem in_div {a b : I2} {x y : Rat} (h0 : containsI b 0 = false) (hx : In a x) (hy : In b y) : In (divI a b) (x / y) := by
  have h := in_mulI hx (in_inv h0 hy).2
  rw [show x * (1 / y) = x / y by rw [Rat.div_def, Rat.div_def, Rat.one_mul]] at h
  exact h
theorem hullI_le (a b : I2) : (hullI a b).1 ≤ (hullI a b).2 := hullL_inc _ _
theorem within_hull (a b : I2) : withinI a (hullI a b) = true ∧ withinI b (hullI a b) = true := by
  have hc : ∀ v ∈ [a.1, a.2, b.1, b.2], In (hullI a b) v := hullL_in
  exact ⟨withinI_of (hc _ (by simp)) (hc _ (by simp)), withinI_of (hc _ (by simp)) (hc _ (by simp))⟩
theorem meetI_some {a b m : I2} (h : meetI a b = some m) : m.1 ≤ m.2 ∧ withinI m a = true ∧ withinI m b = true ∧ m = (maxQ a.1 b.1, minQ a.2 b.2) := by
  unfold meetI at h
  split at h
  · exact absurd h (by simp)
  · rename_i hh
    have e := (Option.some.inj h).symm
    subst e
    have h1 := maxQ_le a.1 b.1
    have h2 := minQ_le a.2 b.2
    exact ⟨Rat.not_lt.1 hh, withinI_iff.2 ⟨h1.1, h2.1⟩, withinI_iff.2 ⟨h1.2, h2.2⟩, rfl⟩
theorem meetI_iff (a b : I2) (v : Rat) : (containsI a v && containsI b v) = (match meetI a b with | none => false | some m => containsI m v) := by
  rw [Bool.eq_iff_iff, Bool.and_eq_true, containsI_iff, containsI_iff]
  have h1 := maxQ_le a.1 b.1
  have h2 := minQ_le a.2 b.2
  have e1 := maxQ_mem a.1 b.1
  have e2 := minQ_mem a.2 b.2
  cases hm : meetI a b with
  | none =>
    simp only [Bool.false_eq_true, iff_false]
    intro ⟨p, q⟩
    unfold meetI at hm
    split at hm
    · rename_i hh
      have k1 : maxQ a.1 b.1 ≤ v := by rcases e1 with e | e <;> rw [e]; exact p.1; exact q.1
      have k2 : v ≤ minQ a.2 b.2 := by rcases e2 with e | e <;> rw [e]; exact p.2; exact q.2
      exact absurd (Rat.le_trans k1 k2) (Rat.not_le.2 hh)
    · exact absurd hm (by simp)
  | some m =>
    have hs := meetI_some hm
    simp only
    rw [containsI_iff]
    constructor
    · intro ⟨p, q⟩
      rw [hs.2.2.2]
      exact ⟨by show maxQ a.1 b.1 ≤ v; rcases e1 with e | e <;> rw [e]; exact p.1; exact q.1, by show v ≤ minQ a.2 b.2; rcases e2 with e | e <;> rw [e]; exact p.2; exact q.2⟩
    · intro p
      exact ⟨p.mono hs.2.1, p.mono hs.2.2.1⟩
theorem sqI_zero {a : I2} (ha : a.1 ≤ a.2) : decide ((sqI a).1 = 0) = containsI a 0 := by
  cases hc : containsI a 0 with
  | true => unfold sqI; rw [hc]; simp
  | false =>
    rw [decide_eq_false_iff_not]
    intro h
    obtain ⟨⟨x, hx, e⟩, _⟩ := sqI_ends ha
    rw [e] at h
    have h0 : x = 0 := by rcases Rat.mul_eq_zero.1 h with h | h <;> exact h
    rw [h0] at hx
    rw [containsI_iff.2 hx] at hc
    exact absurd hc (by decide)
end Go.Vw

/-
  Square roots in intervals: what holds of the interval of a root. Conditions: as each says.
-/
set_option linter.unusedVariables false
set_option linter.unusedSimpArgs false
namespace Go.Vw
theorem twoQ_eq (n : Nat) : twoQ n = ((2 ^ n : Nat) : Rat) := rfl
theorem twoQ_pos (n : Nat) : 0 < twoQ n := by
  have h := twoQ_ne n
  have h2 : (0 : Rat) ≤ twoQ n := by
    rw [twoQ_eq]
    exact Rat.natCast_nonneg
  grind
theorem rt_self_le (m : Nat) : rt m ≤ m := rt_le (by rw [Nat.mul_add, Nat.add_mul]; have := Nat.zero_le (m * m); omega)
theorem two_len {n k : Nat} (h : n / 32 + 1 < k) : (limbs (2 ^ n)).length < k := by
  rw [← limbs_two n, List.length_set, List.length_replicate]; exact h
theorem okQ_two {n : Nat} (h : n ≤ 128) : okQ 10 (twoQ n) := by
  refine ⟨?_, ?_⟩
  · have e : (twoQ n).num.natAbs = 2 ^ n := by unfold twoQ; rw [Rat.num_intCast]; exact Int.natAbs_natCast _
    rw [e]
    exact two_len (by omega)
  · have e : (twoQ n).den = 1 := by unfold twoQ; exact Rat.den_intCast _
    rw [e, limbs_one]; decide
theorem rq_two (n : Nat) : rq (twoQ n) = (false, limbs (2 ^ n), []) := by
  have e : (twoQ n).num = ((2 ^ n : Nat) : Int) := by unfold twoQ; exact Rat.num_intCast _
  have e2 : (twoQ n).den = 1 := by unfold twoQ; exact Rat.den_intCast _
  unfold rq
  rw [e, e2, Int.natAbs_natCast, decide_eq_false (Int.not_lt.2 (Int.natCast_nonneg _))]
  rfl
theorem rq_natI (m : Nat) : rq (((m : Nat) : Int) : Rat) = (false, limbs m, []) := by
  unfold rq
  rw [Rat.num_intCast, Rat.den_intCast, Int.natAbs_natCast, decide_eq_false (by omega)]
  rfl
theorem okQ_natI {m k : Nat} (h : (limbs m).length < k) (hk : 1 < k) : okQ k (((m : Nat) : Int) : Rat) := by
  refine ⟨?_, ?_⟩
  · rw [Rat.num_intCast, Int.natAbs_natCast]; exact h
  · rw [Rat.den_intCast, limbs_one]; exact hk
theorem floor_len {q : Rat} {k : Nat} (h : okQ k q) : (limbs q.floor.natAbs).length < k := by
  rw [Rat.floor_def]
  exact Nat.lt_of_le_of_lt (limbs_len_mono (Int.natAbs_ediv_le_natAbs _ _)) h.1
theorem rootN_len {v : Rat} {n k : Nat} (h : okQ k v) (hn : n ≤ 128) : (limbs (rootN v n)).length < k + 20 := by
  unfold rootN
  exact Nat.lt_of_le_of_lt (limbs_len_mono (rt_self_le _)) (floor_len (h.mul ((okQ_two hn).mul (okQ_two hn))))
theorem mulL {a b c : Rat} (h : a ≤ b) (hc : 0 ≤ c) : c * a ≤ c * b := Rat.mul_le_mul_of_nonneg_left h hc
theorem div_mul_cancel' {a b : Rat} (h : b ≠ 0) : a / b * b = a := by rw [Rat.div_def, Rat.mul_assoc, Rat.inv_mul_cancel b h, Rat.mul_one]
theorem root_spec {v : Rat} (hv : 0 ≤ v) (n : Nat) : 0 ≤ rootLo v n ∧ rootLo v n * rootLo v n ≤ v ∧ v < (rootLo v n + 1 / twoQ n) * (rootLo v n + 1 / twoQ n) := by
  have ht := twoQ_pos n
  have hne := twoQ_ne n
  have h0 : (0 : Rat) ≤ v * (twoQ n * twoQ n) := Rat.mul_nonneg hv (Rat.mul_nonneg (Rat.le_of_lt ht) (Rat.le_of_lt ht))
  have f1 := Rat.floor_le (v * (twoQ n * twoQ n))
  have f2 := Rat.lt_floor_add_one (v * (twoQ n * twoQ n))
  rw [Rat.intCast_add] at f2
  have f0 : 0 ≤ (v * (twoQ n * twoQ n)).floor := Rat.le_floor_iff.2 h0
  have hi := rootHi_eq v n
  unfold rootLo rootN at *
  generalize (v * (twoQ n * twoQ n)).floor = f at *
  obtain ⟨m, rfl⟩ := Int.eq_ofNat_of_zero_le f0
  rw [Int.natAbs_natCast] at *
  have hs := rt_spec m
  generalize rt m = r at *
  generalize twoQ n = t at *
  have s1 : ((r : Nat) : Rat) * ((r : Nat) : Rat) ≤ ((m : Nat) : Rat) := by rw [← Rat.natCast_mul]; exact Rat.natCast_le_natCast.2 hs.1
  have s2 : ((m : Nat) : Rat) + 1 ≤ (((r : Nat) : Rat) + 1) * (((r : Nat) : Rat) + 1) := by
    have : ((m + 1 : Nat) : Rat) ≤ (((r + 1) * (r + 1) : Nat) : Rat) := Rat.natCast_le_natCast.2 hs.2
    rw [Rat.natCast_mul, Rat.natCast_add, Rat.natCast_add] at this
    exact this
  have s0 : (0 : Rat) ≤ ((r : Nat) : Rat) := Rat.natCast_nonneg
  rw [Rat.intCast_natCast] at *
  generalize ((r : Nat) : Rat) = x at *
  generalize ((m : Nat) : Rat) = y at *
  have e1 : x / t * t = x := div_mul_cancel' hne
  have e2 : 1 / t * t = 1 := div_mul_cancel' hne
  have tt : 0 < t * t := Rat.mul_pos ht ht
  generalize x / t = a at *
  generalize 1 / t = e at *
  have q1 : (a * a) * (t * t) = x * x := by rw [← e1]; grind
  have q2 : ((a + e) * (a + e)) * (t * t) = (x + 1) * (x + 1) := by rw [← e1, ← e2]; grind
  have f2' : v * (t * t) < y + 1 := f2
  refine ⟨?_, ?_, ?_⟩
  · refine Rat.le_of_mul_le_mul_right (c := t) ?_ ht
    rw [e1, Rat.zero_mul]; exact s0
  · refine Rat.le_of_mul_le_mul_right (c := t * t) ?_ tt
    rw [q1]; exact Rat.le_trans s1 f1
  · refine Rat.lt_of_mul_lt_mul_right (c := t * t) ?_ (Rat.le_of_lt tt)
    rw [q2]; grind
theorem rootI_le {v : Rat} (n : Nat) : (rootI v n).1 ≤ (rootI v n).2 := by
  unfold rootI
  split
  · exact Rat.le_refl
  · have ht := twoQ_pos n
    have : 0 ≤ 1 / twoQ n := by rw [Rat.div_def, Rat.one_mul]; exact Rat.le_of_lt (Rat.inv_pos.2 ht)
    show rootLo v n ≤ rootLo v n + 1 / twoQ n
    grind
theorem rootI_spec {v : Rat} (hv : 0 ≤ v) (n : Nat) : 0 ≤ (rootI v n).1 ∧ containsI (sqI (rootI v n)) v = true ∧ (((rootI v n).2 - (rootI v n).1) * twoQ n = 0 → (rootI v n).1 * (rootI v n).1 = v) ∧ (((rootI v n).2 - (rootI v n).1) * twoQ n ≠ 0 → ((rootI v n).2 - (rootI v n).1) * twoQ n = 1 ∧ v < (rootI v n).2 * (rootI v n).2 ∧ (rootI v n).1 * (rootI v n).1 < v) := by
  obtain ⟨h0, h1, h2⟩ := root_spec hv n
  have hle := rootI_le (v := v) n
  have ht := twoQ_pos n
  have hne := twoQ_ne n
  have c1 := in_sqI (in_lo hle)
  have c2 := in_sqI (in_hi hle)
  have e2 : 1 / twoQ n * twoQ n = 1 := div_mul_cancel' hne
  unfold rootI at *
  split
  · rename_i h
    rw [if_pos h] at *
    simp only at *
    refine ⟨h0, ?_, fun _ => h, fun hc => ?_⟩
    · rw [h] at c1; exact containsI_iff.2 c1
    · exact absurd (by grind) hc
  · rename_i h
    rw [if_neg h] at *
    simp only at *
    have hlt : rootLo v n * rootLo v n < v := Rat.lt_of_le_of_ne h1 h
    have ew : (rootLo v n + 1 / twoQ n - rootLo v n) * twoQ n = 1 := by rw [← e2]; grind
    refine ⟨h0, containsI_iff.2 ⟨Rat.le_trans c1.1 (Rat.le_of_lt hlt), Rat.le_trans (Rat.le_of_lt h2) c2.2⟩, fun hc => ?_, fun _ => ⟨ew, h2, hlt⟩⟩
    rw [ew] at hc
    exact absurd hc (by decide)
end Go.Vw

/-
  The cell of a number between two others. Conditions: as each says.
-/
set_option linter.unusedVariables false
set_option linter.unusedSimpArgs false
namespace Go.Vw
def okP (v lo hi : Rat) (c : Int) : Bool := decide (lo < hi) && decide (1 ≤ c) && decide (lo ≤ v) && decide (v ≤ hi)
def cellZ (v lo hi : Rat) (c : Int) : Int := min ((v - lo) / (hi - lo) * c).floor (c - 1)
theorem cell_comm (v lo hi : Rat) (c : Int) : (v - lo) * c / (hi - lo) = (v - lo) / (hi - lo) * c := by
  rw [Rat.div_def, Rat.div_def, Rat.mul_assoc, Rat.mul_assoc, Rat.mul_comm (c : Rat)]
theorem frac_bounds {w d : Rat} (hd : 0 < d) (h0 : 0 ≤ w) (h1 : w ≤ d) : 0 ≤ w / d ∧ w / d ≤ 1 ∧ (w < d → w / d < 1) := by
  have e : w / d * d = w := div_mul_cancel' (Rat.ne_of_gt hd)
  refine ⟨?_, ?_, fun h => ?_⟩
  · refine Rat.le_of_mul_le_mul_right (c := d) ?_ hd
    rw [e, Rat.zero_mul]; exact h0
  · refine Rat.le_of_mul_le_mul_right (c := d) ?_ hd
    rw [e, Rat.one_mul]; exact h1
  · refine Rat.lt_of_mul_lt_mul_right (c := d) ?_ (Rat.le_of_lt hd)
    rw [e, Rat.one_mul]; exact h
theorem cell_floor {v lo hi : Rat} {c : Int} (h : lo < hi) (hc : 1 ≤ c) (h1 : lo ≤ v) (h2 : v ≤ hi) : 0 ≤ ((v - lo) / (hi - lo) * c).floor ∧ ((v - lo) / (hi - lo) * c).floor ≤ c ∧ (v < hi → ((v - lo) / (hi - lo) * c).floor < c) := by
  have hb := frac_bounds (w := v - lo) (d := hi - lo) (by grind) (by grind) (by grind)
  have hc0 : (0 : Rat) ≤ (c : Rat) := by
    have : ((0 : Int) : Rat) ≤ (c : Rat) := Rat.intCast_le_intCast.2 (by omega)
    exact this
  have hcp : (0 : Rat) < (c : Rat) := by
    have : ((0 : Int) : Rat) < (c : Rat) := Rat.intCast_lt_intCast.2 (by omega)
    exact this
  generalize (v - lo) / (hi - lo) = f at *
  refine ⟨?_, ?_, fun h => ?_⟩
  · exact Rat.le_floor_iff.2 (Rat.mul_nonneg hb.1 hc0)
  · have h3 : f * c ≤ (c : Rat) := by
      have := Rat.mul_le_mul_of_nonneg_right hb.2.1 hc0
      rwa [Rat.one_mul] at this
    have h4 := Rat.le_trans (Rat.floor_le (f * c)) h3
    exact Rat.intCast_le_intCast.1 h4
  · refine Rat.floor_lt_iff.2 ?_
    have := Rat.mul_lt_mul_of_pos_right (hb.2.2 (by grind)) hcp
    rwa [Rat.one_mul] at this
theorem cell_top {lo hi : Rat} {c : Int} (h : lo < hi) (hc : 1 ≤ c) : cellZ hi lo hi c = c - 1 := by
  unfold cellZ
  have e : (hi - lo) / (hi - lo) = 1 := by rw [Rat.div_def]; exact Rat.mul_inv_cancel _ (by grind)
  rw [e, Rat.one_mul, Rat.floor_intCast]
  omega
theorem cell_in {v lo hi : Rat} {c : Int} (h : okP v lo hi c = true) : 0 ≤ cellZ v lo hi c ∧ cellZ v lo hi c < c := by
  unfold okP at h
  simp only [Bool.and_eq_true, decide_eq_true_eq] at h
  obtain ⟨⟨⟨h1, h2⟩, h3⟩, h4⟩ := h
  have := cell_floor h1 h2 h3 h4
  unfold cellZ
  omega
end Go.Vw

set_option linter.unusedVariables false
set_option linter.unusedSimpArgs false
set_option maxHeartbeats 8000000
namespace Go.Proofs.YtfnckkfbnnbmkaaGreat
open Go.Vw
attribute [local irreducible] awp awpL awpR

theorem ref02_ToIntN (n : Nat) (h : n < 9223372036854775808) : Ret Tryz.prog 84 [zD (n : Int)] (· = .tup [.int .i64 n, .bool true]) := by
  have ln := u64_len (v := n) (by omega)
  have hv := ref02_TakeZ (n : Int) (by rw [Int.natAbs_natCast]; omega)
  rw [zD_nat] at hv ⊢
  have hu := ref01_UintN n (by omega)
  refine ret_of_awp tab Tryz.func84 rfl rfl (Nat.le_of_ble_eq_true rfl) (fun w0 F0 => ?_)
  repeat' (first
    | (show awpL _ _ _ _ _; first | refine goL ?_ | refine cl 90 tt rfl rfl rfl (hr := hv) (k := ?_) | refine cl 116 tt rfl rfl rfl (hr := hu) (k := ?_) | (refine gdLG ?_ ?_ <;> intro _ <;> try (exfalso; omega)))
    | (show awp _ _ _ _; first | refine goA ?_ | (refine cdG ?_ ?_ <;> intro _ <;> try (exfalso; omega)))
    | (show andThen _ _ _ _; refine goN ?_)
    | (show inBlock _ _ _ _; refine goB ?_)
    | (show retPost _ _ _ _ _; refine finG ?_))
  rfl
theorem rational_FromIntW (v : Int) (h1 : -9223372036854775808 ≤ v) (h2 : v < 9223372036854775808) : Ret Tryz.prog 70 [.int .i64 v] (· = qD (v : Rat)) := by
  have := rational_FromInt v h1 h2
  rw [← rq_int] at this
  exact this
end Go.Proofs.YtfnckkfbnnbmkaaGreat

set_option linter.unusedVariables false
set_option linter.unusedSimpArgs false
set_option maxHeartbeats 8000000
namespace Go.Proofs.YtfnckkfbnnbmkaaGreat
open Go.Vw
attribute [local irreducible] awp awpL awpR Int.decLt Int.decLe

def len8 (x : Nat) : Nat := if x = 0 then 0 else x.log2 + 1
set_option maxRecDepth 100000 in
theorem bits_Len64 (x : Nat) (hx : x < 256) : Ret Tryz.prog 150 [.int .u64 x] (· = .int .i64 (len8 x)) := by
  refine ret_of_awp tab Tryz.func150 rfl rfl (Nat.le_of_ble_eq_true rfl) (fun w0 F0 => ?_)
  repeat' (first
    | (show awpL _ _ _ _ _; first | refine goL ?_ | (refine gdLG ?_ ?_ <;> intro _ <;> try (exfalso; omega)))
    | (show awp _ _ _ _; first | refine goA ?_ | (refine cdG ?_ ?_ <;> intro _ <;> try (exfalso; omega)))
    | (show andThen _ _ _ _; refine goN ?_)
    | (show inBlock _ _ _ _; refine goB ?_)
    | (show retPost _ _ _ _ _; refine finG ?_)
    | (show retPostB _ _ _ _ _ _; first | refine finB rfl rfl ?_ ?_ | refine finBT rfl rfl rfl ?_ ?_))
  · refine stepQ false tt stt rfl rfl rfl ⟨by omega, Nat.lt_of_lt_of_le (show _ < 256 by omega) (Nat.le_of_ble_eq_true rfl)⟩ ?_
    refine awpL_byte 22 rfl (fun n hn he => ?_)
    repeat' (first
      | (show awpL _ _ _ _ _; first | refine goL ?_ | (refine gdLG ?_ ?_ <;> intro _ <;> try (exfalso; omega)))
      | (show awp _ _ _ _; first | refine goA ?_ | (refine cdG ?_ ?_ <;> intro _ <;> try (exfalso; omega)))
      | (show andThen _ _ _ _; refine goN ?_)
      | (show inBlock _ _ _ _; refine goB ?_)
      | (show retPost _ _ _ _ _; refine finG ?_)
      | (show retPostB _ _ _ _ _ _; first | refine finB rfl rfl ?_ ?_ | refine finBT rfl rfl rfl ?_ ?_))
    have e : n = len8 x := by
      rw [he]
      clear he
      revert x
      decide +kernel
    rw [e]
    congr 1 <;> omega
theorem bits_Len (x : Nat) (hx : x < 256) : Ret Tryz.prog 118 [.int .u64 x] (· = .int .i64 (len8 x)) := by
  have h := bits_Len64 x hx
  generalize len8 x = n at *
  refine ret_of_awp tab Tryz.func118 rfl rfl (Nat.le_of_ble_eq_true rfl) (fun w0 F0 => ?_)
  repeat' (first
    | (show awpL _ _ _ _ _; first | refine goL ?_ | refine cl 150 tt rfl rfl rfl (hr := h) (k := ?_) | (refine gdLG ?_ ?_ <;> intro _ <;> try (exfalso; omega)))
    | (show awp _ _ _ _; first | refine goA ?_ | (refine cdG ?_ ?_ <;> intro _ <;> try (exfalso; omega)))
    | (show andThen _ _ _ _; refine goN ?_)
    | (show inBlock _ _ _ _; refine goB ?_)
    | (show retPost _ _ _ _ _; refine finG ?_)
    | (show retPostB _ _ _ _ _ _; first | refine finB rfl rfl ?_ ?_ | refine finBT rfl rfl rfl ?_ ?_))
  rfl
theorem slices_pdq (l : List Rat) (lim : Int) (hn : l.length ≤ 12) (hl : ∀ q ∈ l, okQ 1000 q) : RetB Tryz.prog 117 [.own 1000 0 l.length 30 3, .d (.int .i64 0), .d (.int .i64 l.length), .d (.int .i64 lim), .fn 69 []] (lookB [(1000, .data 30 3 qC 0 l)]) (.tup []) (lookB [(1000, .data 30 3 qC 0 (srt l))]) := by
  have h := slices_ins l (by omega) hl
  have hs := srt_len l
  refine retB_of_awp tab [1000] Tryz.func117 rfl rfl rfl (Nat.le_of_ble_eq_true rfl) rfl ⟨by show l.length ≤ (srt l).length; rw [srt_len]; exact Nat.le_refl _, trivial⟩ (fun w0 F0 A io0 => ?_)
  repeat' (first
    | (show awpL _ _ _ _ _; first | refine goL ?_ | (refine gdLG ?_ ?_ <;> intro _ <;> try (exfalso; omega)))
    | (show awp _ _ _ _; first | refine goA ?_ | refine rg 17 13 ?_ | (refine cdG ?_ ?_ <;> intro _ <;> try (exfalso; omega)))
    | (show andThen _ _ _ _; refine goN ?_)
    | (show inBlock _ _ _ _; refine goB ?_)
    | (show awpR _ _ _ _ _ _ _; first | refine goR ?_ | (refine gdRG ?_ ?_ <;> intro _ <;> try (exfalso; omega)))
    | (show retPost _ _ _ _ _; refine finG ?_)
    | (show retPostB _ _ _ _ _ _; first | refine finB rfl rfl ?_ ?_ | refine finBT rfl rfl rfl ?_ ?_))
  refine awp_loop1 (fun (_ : Nat) => ([(0, .own 1000 0 l.length 30 3), (1, .d (.int .i64 0)), (2, .d (.int .i64 l.length)), (3, .d (.int .i64 lim)), (4, .fn 69 []), (10, .d (.bool true)), (11, .d (.bool true))], [(1000, .data 30 3 qC 0 l)])) (fun _ => True) (fun i => i) 0 trivial ⟨rfl, rfl, rfl, rfl, rfl, rfl, rfl, rfl⟩ ⟨rfl, trivial⟩ (fun i hi => ?_)
  repeat' (first
    | (show awpL _ _ _ _ _; first | refine goL ?_ | refine clB 141 [] (h) tt rfl rfl rfl rfl rfl rfl leVT allB ?_ | (refine gdLG ?_ ?_ <;> intro _ <;> try (exfalso; omega)))
    | (show awp _ _ _ _; first | refine goA ?_ | refine rg 17 13 ?_ | (refine cdG ?_ ?_ <;> intro _ <;> try (exfalso; omega)))
    | (show andThen _ _ _ _; refine goN ?_)
    | (show inBlock _ _ _ _; refine goB ?_)
    | (show awpR _ _ _ _ _ _ _; first | refine goR ?_ | (refine gdRG ?_ ?_ <;> intro _ <;> try (exfalso; omega)))
    | (show retPost _ _ _ _ _; refine finG ?_)
    | (show retPostB _ _ _ _ _ _; first | refine finB rfl rfl ?_ ?_ | refine finBT rfl rfl rfl ?_ ?_))
  all_goals first | exact leVT | exact ⟨rfl, trivial⟩
theorem slices_SortFunc (l : List Rat) (hn : l.length ≤ 12) (hl : ∀ q ∈ l, okQ 1000 q) : RetB Tryz.prog 87 [.own 1000 0 l.length 30 3, .fn 69 []] (lookB [(1000, .data 30 3 qC 0 l)]) (.tup []) (lookB [(1000, .data 30 3 qC 0 (srt l))]) := by
  have h := slices_pdq l (len8 l.length) hn hl
  have hs := srt_len l
  have hb := bits_Len l.length (by omega)
  generalize len8 l.length = n at *
  refine retB_of_awp tab [1000] Tryz.func87 rfl rfl rfl (Nat.le_of_ble_eq_true rfl) rfl ⟨by show l.length ≤ (srt l).length; rw [srt_len]; exact Nat.le_refl _, trivial⟩ (fun w0 F0 A io0 => ?_)
  repeat' (first
    | (show awpL _ _ _ _ _; first | refine goL ?_ | refine clB 117 [] (h) tt rfl rfl rfl rfl rfl rfl leVT allB ?_ | refine cl 118 tt rfl rfl rfl (hr := hb) (k := ?_) | (refine gdLG ?_ ?_ <;> intro _ <;> try (exfalso; omega)))
    | (show awp _ _ _ _; first | refine goA ?_ | (refine cdG ?_ ?_ <;> intro _ <;> try (exfalso; omega)))
    | (show andThen _ _ _ _; refine goN ?_)
    | (show inBlock _ _ _ _; refine goB ?_)
    | (show retPost _ _ _ _ _; refine finG ?_)
    | (show retPostB _ _ _ _ _ _; first | refine finB rfl rfl ?_ ?_ | refine finBT rfl rfl rfl ?_ ?_))
  all_goals first | exact leVT | exact ⟨rfl, trivial⟩
theorem order_Sort (l : List R3) (hn : l.length ≤ 12) (hl : ∀ r ∈ l, RatOk r 1000) : Ret Tryz.prog 47 [rsD l] (· = qsD (srt (l.map rv))) := by
  have hq : ∀ q ∈ l.map rv, okQ 1000 q := fun q hq => by
    obtain ⟨r, hr, rfl⟩ := List.mem_map.1 hq
    exact okQ_rv (hl r hr) (by decide)
  have h0 := slices_SortFunc (l.map rv) (by rw [List.length_map]; exact hn) hq
  rw [List.length_map] at h0
  have h : RetB Tryz.prog 87 [.own 500 0 l.length 30 3, .fn 69 []] (lookB [(500, .data 30 3 qC 0 (l.map rv))]) (.tup []) (lookB [(500, .data 30 3 qC 0 (srt (l.map rv)))]) := h0.ren [(1000, 500)]
  have hs : (srt (l.map rv)).length = l.length := by rw [srt_len, List.length_map]
  clear h0 hq
  refine ret_of_awp tab Tryz.func47 rfl rfl (Nat.le_of_ble_eq_true rfl) (fun w0 F0 => ?_)
  repeat' (first
    | (show awpL _ _ _ _ _; first | refine goL ?_ | (refine gdLG ?_ ?_ <;> intro _ <;> try (exfalso; omega)))
    | (show awp _ _ _ _; first | refine goA ?_ | (refine cdG ?_ ?_ <;> intro _ <;> try (exfalso; omega)))
    | (show andThen _ _ _ _; refine goN ?_)
    | (show inBlock _ _ _ _; refine goB ?_)
    | (show retPost _ _ _ _ _; refine finG ?_)
    | (show retPostB _ _ _ _ _ _; first | refine finB rfl rfl ?_ ?_ | refine finBT rfl rfl rfl ?_ ?_))
  refine awp_adopt 3 500 30 3 qC 0 rfl ?_
  refine awp_loop1 (fun (i : Nat) => ([(3, .own 500 0 ((l.map rv).take i).length 30 3), (6, .d (rsD l)), (7, .d (.int .i64 l.length)), (8, .d (.int .i64 i))], [(500, .data 30 3 qC 0 ((l.map rv).take i))])) (fun i => i ≤ l.length) (fun i => l.length - i) 0 (by omega) ⟨rfl, rfl, rfl, rfl, rfl⟩ ⟨rfl, trivial⟩ (fun i hi => ?_)
  have hlen : ((l.map rv).take i).length = i := by simp; omega
  by_cases h3 : i < l.length
  · have g1 : l.getD i r0 ∈ l := by rw [List.getD, List.getElem?_eq_getElem h3]; exact List.getElem_mem h3
    have ha := rational_Add (l.getD i r0) r0 ((hl _ g1).up (by decide)) (ok_r0 (by decide))
    rw [rv_r0, Rat.add_zero] at ha
    have e : (l.map rv).take i ++ [rv (l.getD i r0)] = (l.map rv).take (i + 1) := by
      rw [List.take_add_one]
      simp [h3, List.getD, List.getElem?_eq_getElem h3]
    clear h hs
    repeat' (first
      | (show awpL _ _ _ _ _; first | refine goL ?_ | refine cl 74 tt rfl rfl rfl (hr := ha) (k := ?_) | (refine gdLG ?_ ?_ <;> intro _ <;> try (exfalso; omega)))
      | (show awp _ _ _ _; first | refine goA ?_ | (refine cdG ?_ ?_ <;> intro _ <;> try (exfalso; omega)))
      | (show andThen _ _ _ _; refine goN ?_)
      | (show inBlock _ _ _ _; refine goB ?_)
      | (show retPost _ _ _ _ _; refine finG ?_)
      | (show retPostB _ _ _ _ _ _; first | refine finB rfl rfl ?_ ?_ | refine finBT rfl rfl rfl ?_ ?_))
    exact ⟨i + 1, by omega, by omega, ⟨by rw [← e]; rfl, rfl, rfl, iv (by omega), rfl⟩, by rw [← e]; rfl, trivial⟩
  · have e : (l.map rv).take i = l.map rv := List.take_of_length_le (by rw [List.length_map]; omega)
    rw [e] at hlen ⊢
    rw [List.length_map]
    generalize srt (l.map rv) = s at *
    repeat' (first
      | (show awpL _ _ _ _ _; first | refine goL ?_ | refine clB 87 [] (h) tt rfl rfl rfl rfl rfl rfl leVT allB ?_ | (refine gdLG ?_ ?_ <;> intro _ <;> try (exfalso; omega)))
      | (show awp _ _ _ _; first | refine goA ?_ | (refine cdG ?_ ?_ <;> intro _ <;> try (exfalso; omega)))
      | (show andThen _ _ _ _; refine goN ?_)
      | (show inBlock _ _ _ _; refine goB ?_)
      | (show retPost _ _ _ _ _; refine finG ?_)
      | (show retPostB _ _ _ _ _ _; first | refine finB rfl rfl ?_ ?_ | refine finBT rfl rfl rfl ?_ ?_))
    all_goals rfl
end Go.Proofs.YtfnckkfbnnbmkaaGreat

/-
  Intervals of rational numbers: how long the results are. Conditions: as each says.
-/
set_option linter.unusedVariables false
set_option linter.unusedSimpArgs false
namespace Go.Vw
theorem okQ_one : okQ 2 1 := ⟨by show (limbs 1).length < 2; rw [limbs_one]; decide, by show (limbs 1).length < 2; rw [limbs_one]; decide⟩
theorem okI.mono {k l : Nat} {i : I2} (h : okI k i) (hl : k ≤ l) : okI l i := ⟨h.1.mono hl, h.2.mono hl⟩
theorem hullL_okI {k : Nat} {x : Rat} {l : List Rat} (h : ∀ q ∈ x :: l, okQ k q) : okI k (hullL x l) :=
  hullL_ok l x x (h x (by simp)) (h x (by simp)) fun q hq => h q (by simp [hq])
theorem mulI_ok {k l : Nat} {a b : I2} (ha : okI k a) (hb : okI l b) : okI (k + l) (mulI a b) := by
  refine hullL_okI ?_
  intro x hx
  simp only [List.mem_cons, List.not_mem_nil, or_false] at hx
  rcases hx with h | h | h | h <;> rw [h]
  · exact ha.1.mul hb.1
  · exact ha.1.mul hb.2
  · exact ha.2.mul hb.1
  · exact ha.2.mul hb.2
theorem addI_ok {k l : Nat} {a b : I2} (ha : okI k a) (hb : okI l b) : okI (k + l) (addI a b) := ⟨ha.1.add hb.1, ha.2.add hb.2⟩
theorem subI_ok {k l : Nat} {a b : I2} (ha : okI k a) (hb : okI l b) : okI (k + l) (subI a b) := ⟨ha.1.sub hb.2, ha.2.sub hb.1⟩
theorem sqI_ok {k : Nat} {a : I2} (ha : okI k a) (hk : 1 < k) : okI (k + k) (sqI a) := by
  have h : okI (k + k) (hullL (a.1 * a.1) [a.2 * a.2]) := by
    refine hullL_okI ?_
    intro x hx
    simp only [List.mem_cons, List.not_mem_nil, or_false] at hx
    rcases hx with h | h <;> rw [h]
    · exact ha.1.mul ha.1
    · exact ha.2.mul ha.2
  unfold sqI
  split
  · exact ⟨okQ_zero (by omega), h.2⟩
  · exact h
theorem divI_ok {k l : Nat} {a b : I2} (ha : okI k a) (hb : okI l b) (hle : b.1 ≤ b.2) (h0 : containsI b 0 = false) : okI (k + (2 + l)) (divI a b) := by
  have h1 := (in_inv h0 (in_lo hle)).1
  have h2 := (in_inv h0 (in_hi hle)).1
  exact mulI_ok ha ⟨okQ_one.div hb.2 h2, okQ_one.div hb.1 h1⟩
theorem divI_le (a b : I2) : (divI a b).1 ≤ (divI a b).2 := mulI_le _ _
theorem hullI_ok {k : Nat} {a b : I2} (ha : okI k a) (hb : okI k b) : okI k (hullI a b) := by
  refine hullL_okI ?_
  intro x hx
  simp only [List.mem_cons, List.not_mem_nil, or_false] at hx
  rcases hx with h | h | h | h <;> rw [h]
  · exact ha.1
  · exact ha.2
  · exact hb.1
  · exact hb.2
theorem meetI_ok {k : Nat} {a b m : I2} (ha : okI k a) (hb : okI k b) (h : meetI a b = some m) : okI k m := by
  rw [(meetI_some h).2.2.2]
  exact ⟨okQ_maxQ ha.1 hb.1, okQ_minQ ha.2 hb.2⟩
theorem rootI_ok {v : Rat} {n k : Nat} (h : okQ k v) (hn : n ≤ 128) (hk : 1 < k) : okI (k + 20 + 10 + (2 + 10)) (rootI v n) := by
  have hl : okQ (k + 20 + 10) (rootLo v n) := (okQ_natI (rootN_len h hn) (by omega)).div (okQ_two hn) (twoQ_ne n)
  have hs := okQ_one.div (okQ_two hn) (twoQ_ne n)
  unfold rootI
  split
  · exact ⟨hl.mono (by omega), hl.mono (by omega)⟩
  · exact ⟨hl.mono (by omega), hl.add hs⟩
theorem num_nonneg' {q : Rat} (h : 0 ≤ q) : 0 ≤ q.num := Rat.num_nonneg.2 h
theorem sign_zero_iff {q : Rat} : q.num.sign = 0 ↔ q = 0 := by rw [Int.sign_eq_zero_iff_zero, Rat.num_eq_zero]
end Go.Vw

/-
  Medians and quantiles of rational numbers. Conditions: as each says.
-/
set_option linter.unusedVariables false
set_option linter.unusedSimpArgs false
namespace Go.Vw
def medLo (l : List Rat) : Rat := (srt l).getD ((l.length + 1) / 2 - 1) 0
def medHi (l : List Rat) : Rat := (srt l).getD (l.length / 2) 0
def midQ (l : List Rat) : Rat := (medLo l + medHi l) / 2
def absQ (x : Rat) : Rat := if x < 0 then -x else x
def distQ (l : List Rat) (m : Rat) : List Rat := l.map fun x => absQ (x - m)
def qFirst (p : Rat) (n : Nat) : Int := if 0 < (p * (n : Int)).floor ∧ p * (n : Int) = ((p * (n : Int)).floor : Int) then (p * (n : Int)).floor - 1 else (p * (n : Int)).floor
def qLo (l : List Rat) (p : Rat) : Rat := (srt l).getD (min (qFirst p l.length) ((l.length : Int) - 1)).toNat 0
def qHi (l : List Rat) (p : Rat) : Rat := (srt l).getD (min (p * (l.length : Int)).floor ((l.length : Int) - 1)).toNat 0
theorem srt_ok {k : Nat} {l : List Rat} (h : ∀ q ∈ l, okQ k q) : ∀ q ∈ srt l, okQ k q := fun q hq => h q ((srt_perm l).subset hq)
theorem absQ_ok {k : Nat} {x : Rat} (h : okQ k x) : okQ k (absQ x) := by unfold absQ; split; exact h.neg; exact h
theorem okQ_two2 : okQ 2 2 := ⟨by show (limbs 2).length < 2; rw [limbs_small (by decide) (by decide)]; decide, by show (limbs 1).length < 2; rw [limbs_one]; decide⟩
theorem midQ_ok {k : Nat} {l : List Rat} (h : ∀ q ∈ l, okQ k q) (h0 : 0 < l.length) : okQ (k + k + 2) (midQ l) := by
  have hs := srt_ok h
  have hl := srt_len l
  exact ((getD_ok hs (by omega)).add (getD_ok hs (by omega))).div okQ_two2 (by decide)
theorem nonneg_floor {x : Rat} (h : 0 ≤ x) : 0 ≤ x.floor := Rat.le_floor_iff.2 h
theorem mul_nat_nonneg {p : Rat} (n : Nat) (h : 0 ≤ p) : 0 ≤ p * ((n : Int) : Rat) := Rat.mul_nonneg h (by rw [Rat.intCast_natCast]; exact Rat.natCast_nonneg)
theorem mul_nat_le {p : Rat} (n : Nat) (h : p ≤ 1) : p * ((n : Int) : Rat) ≤ ((n : Int) : Rat) := by
  have := Rat.mul_le_mul_of_nonneg_right h (show (0 : Rat) ≤ ((n : Int) : Rat) by rw [Rat.intCast_natCast]; exact Rat.natCast_nonneg)
  rwa [Rat.one_mul] at this
theorem floor_le_nat {x : Rat} {n : Int} (h : x ≤ (n : Rat)) : x.floor ≤ n := Rat.intCast_le_intCast.1 (Rat.le_trans (Rat.floor_le x) h)
end Go.Vw

set_option linter.unusedVariables false
set_option linter.unusedSimpArgs false
set_option maxHeartbeats 8000000
namespace Go.Proofs.YtfnckkfbnnbmkaaGreat
open Go.Vw
attribute [local irreducible] awp awpL awpR

theorem leRsQ2 (l : List Rat) : LeD (qsD l) (rsD (l.map rq)) := LeD.sl (by simp) fun i a b ha hb => by
  rw [List.getElem?_map, ha] at hb
  have e : rq a = b := Option.some.inj hb
  subst e
  exact ⟨rfl, LeL.refl _⟩
theorem mapRvRq (l : List Rat) : (l.map rq).map rv = l := by
  rw [List.map_map]
  exact (List.map_congr_left (fun q _ => rv_rq q)).trans (List.map_id l)
/-- The error of a list that needs so many elements. -/
def chkO (n : Nat) (k : Int) : Int := if (n : Int) < k then 10 else if 1024 < n then 2 else 0
theorem order_check (l : List R3) (k : Int) (hl : l.length < 9223372036854775807) : Ret Tryz.prog 53 [rsD l, .int .i64 k] (· = .int .i64 (chkO l.length k)) := by
  unfold chkO
  by_cases c1 : (l.length : Int) < k
  · rw [if_pos c1]
    refine ret_of_awp tab Tryz.func53 rfl rfl (Nat.le_of_ble_eq_true rfl) (fun w0 F0 => ?_)
    repeat' (first
      | (show awpL _ _ _ _ _; first | refine goL ?_ | (refine gdLG ?_ ?_ <;> intro _ <;> try (exfalso; omega)))
      | (show awp _ _ _ _; first | refine goA ?_ | (refine cdG ?_ ?_ <;> intro _ <;> try (exfalso; omega)))
      | (show andThen _ _ _ _; refine goN ?_)
      | (show inBlock _ _ _ _; refine goB ?_)
      | (show retPost _ _ _ _ _; refine finG ?_))
    all_goals rfl
  rw [if_neg c1]
  by_cases c2 : 1024 < l.length
  · rw [if_pos c2]
    refine ret_of_awp tab Tryz.func53 rfl rfl (Nat.le_of_ble_eq_true rfl) (fun w0 F0 => ?_)
    repeat' (first
      | (show awpL _ _ _ _ _; first | refine goL ?_ | (refine gdLG ?_ ?_ <;> intro _ <;> try (exfalso; omega)))
      | (show awp _ _ _ _; first | refine goA ?_ | (refine cdG ?_ ?_ <;> intro _ <;> try (exfalso; omega)))
      | (show andThen _ _ _ _; refine goN ?_)
      | (show inBlock _ _ _ _; refine goB ?_)
      | (show retPost _ _ _ _ _; refine finG ?_))
    all_goals rfl
  · rw [if_neg c2]
    refine ret_of_awp tab Tryz.func53 rfl rfl (Nat.le_of_ble_eq_true rfl) (fun w0 F0 => ?_)
    repeat' (first
      | (show awpL _ _ _ _ _; first | refine goL ?_ | (refine gdLG ?_ ?_ <;> intro _ <;> try (exfalso; omega)))
      | (show awp _ _ _ _; first | refine goA ?_ | (refine cdG ?_ ?_ <;> intro _ <;> try (exfalso; omega)))
      | (show andThen _ _ _ _; refine goN ?_)
      | (show inBlock _ _ _ _; refine goB ?_)
      | (show retPost _ _ _ _ _; refine finG ?_))
    all_goals rfl
theorem order_half (x : Rat) (h : okQ 100000 x) : Ret Tryz.prog 80 [qD x] (· = qD (x / 2)) := by
  have f := rational_FromIntW 2 (by decide) (by decide)
  rw [show ((2 : Int) : Rat) = 2 from rfl] at f
  have d := rational_DivQ x 2 (h.mono (by decide)) (okQ_two2.mono (by decide))
  rw [if_neg (by decide)] at d
  generalize (2 : Rat) = two at *
  refine ret_of_awp tab Tryz.func80 rfl rfl (Nat.le_of_ble_eq_true rfl) (fun w0 F0 => ?_)
  repeat' (first
    | (show awpL _ _ _ _ _; first | refine goL ?_ | refine cl 70 tt rfl rfl rfl (hr := f) (k := ?_) | refine cl 100 tt rfl rfl rfl (hr := d) (k := ?_) | (refine gdLG ?_ ?_ <;> intro _ <;> try (exfalso; omega)))
    | (show awp _ _ _ _; first | refine goA ?_ | refine rgK 1 8 [3] ?_ | (refine cdG ?_ ?_ <;> intro _ <;> try (exfalso; omega)))
    | (show andThen _ _ _ _; refine goN ?_)
    | (show inBlock _ _ _ _; refine goB ?_)
    | (show awpR _ _ _ _ _ _ _; first | refine goR ?_ | refine clR 70 tt rfl rfl rfl (hr := f) (k := ?_) | refine clR 100 tt rfl rfl rfl (hr := d) (k := ?_) | (refine gdRG ?_ ?_ <;> intro _ <;> try (exfalso; omega)))
    | (show retPost _ _ _ _ _; refine finG ?_))
  rfl
theorem rational_AbsQ (x : Rat) (h : okQ 100000 x) : Ret Tryz.prog 114 [qD x] (· = qD (absQ x)) := by
  have sg := rational_SignQ x (h.mono (by decide))
  have n1 := rational_Neg (rq x) (ok_rq (h.mono (by decide)))
  rw [rv_rq] at n1
  have n2 := rational_Neg (rq (-x)) (ok_rq (h.neg.mono (by decide)))
  rw [rv_rq, Rat.neg_neg] at n2
  have hs : x.num.sign < 0 ↔ x < 0 := by rw [← num_lt0, ← Int.not_le, ← Int.not_le, Int.sign_nonneg_iff]
  generalize x.num.sign = s at *
  unfold absQ
  by_cases c : x < 0
  · have hn := hs.2 c
    rw [if_pos c]
    clear hs
    refine ret_of_awp tab Tryz.func114 rfl rfl (Nat.le_of_ble_eq_true rfl) (fun w0 F0 => ?_)
    repeat' (first
      | (show awpL _ _ _ _ _; first | refine goL ?_ | refine cl 68 tt rfl rfl rfl (hr := sg) (k := ?_) | refine cl 140 tt rfl rfl rfl (hr := n1) (k := ?_) | (refine gdLG ?_ ?_ <;> intro _ <;> try (exfalso; omega)))
      | (show awp _ _ _ _; first | refine goA ?_ | (refine cdG ?_ ?_ <;> intro _ <;> try (exfalso; omega)))
      | (show andThen _ _ _ _; refine goN ?_)
      | (show inBlock _ _ _ _; refine goB ?_)
      | (show retPost _ _ _ _ _; refine finG ?_))
    rfl
  · have hn := mt hs.1 c
    rw [if_neg c]
    clear hs
    refine ret_of_awp tab Tryz.func114 rfl rfl (Nat.le_of_ble_eq_true rfl) (fun w0 F0 => ?_)
    repeat' (first
      | (show awpL _ _ _ _ _; first | refine goL ?_ | refine cl 68 tt rfl rfl rfl (hr := sg) (k := ?_) | refine cl 140 tt rfl rfl rfl (hr := n1) (k := ?_) | refine cl 140 tt rfl rfl rfl (hr := n2) (k := ?_) | (refine gdLG ?_ ?_ <;> intro _ <;> try (exfalso; omega)))
      | (show awp _ _ _ _; first | refine goA ?_ | (refine cdG ?_ ?_ <;> intro _ <;> try (exfalso; omega)))
      | (show andThen _ _ _ _; refine goN ?_)
      | (show inBlock _ _ _ _; refine goB ?_)
      | (show retPost _ _ _ _ _; refine finG ?_))
    rfl
theorem order_median (l : List R3) (h0 : 0 < l.length) (hn : l.length ≤ 12) (hl : ∀ r ∈ l, RatOk r 1000) : Ret Tryz.prog 54 [rsD l] (· = .tup [qD (medLo (l.map rv)), qD (medHi (l.map rv))]) := by
  have hs := order_Sort l hn hl
  have hq : ∀ q ∈ l.map rv, okQ 1000 q := fun q hq => by
    obtain ⟨r, hr, rfl⟩ := List.mem_map.1 hq
    exact okQ_rv (hl r hr) (by decide)
  have ho := srt_ok hq
  have hlen := srt_len (l.map rv)
  rw [List.length_map] at hlen
  unfold medLo medHi
  rw [List.length_map]
  generalize srt (l.map rv) = s at *
  have e1 : (((l.length : Int) + 1) / 2 - 1).toNat = (l.length + 1) / 2 - 1 := by omega
  have ha := rational_Add (rq (s.getD (l.length / 2) 0)) r0 (ok_rq ((getD_ok ho (by omega)).mono (by decide))) (ok_r0 (by decide))
  rw [rv_r0, Rat.add_zero, rv_rq] at ha
  refine ret_of_awp tab Tryz.func54 rfl rfl (Nat.le_of_ble_eq_true rfl) (fun w0 F0 => ?_)
  repeat' (first
    | (show awpL _ _ _ _ _; first | refine goL ?_ | refine cl 47 tt rfl rfl rfl (hr := hs) (k := ?_) | refine cl 74 tt rfl rfl rfl (hr := ha) (k := ?_) | (refine gdLG ?_ ?_ <;> intro _ <;> try (exfalso; omega)))
    | (show awp _ _ _ _; first | refine goA ?_ | refine rg 2 14 ?_ | (refine cdG ?_ ?_ <;> intro _ <;> try (exfalso; omega)))
    | (show andThen _ _ _ _; refine goN ?_)
    | (show inBlock _ _ _ _; refine goB ?_)
    | (show awpR _ _ _ _ _ _ _; first | refine goR ?_ | refine clR 47 tt rfl rfl rfl (hr := hs) (k := ?_) | refine clR 74 tt rfl rfl rfl (hr := ha) (k := ?_) | (refine gdRG ?_ ?_ <;> intro _ <;> try (exfalso; omega)))
    | (show retPost _ _ _ _ _; refine finG ?_))
  all_goals rw [e1]
theorem mapq_ok {l : List R3} (hl : ∀ r ∈ l, RatOk r 1000) : ∀ q ∈ l.map rv, okQ 1000 q := fun q hq => by
  obtain ⟨r, hr, rfl⟩ := List.mem_map.1 hq
  exact okQ_rv (hl r hr) (by decide)
theorem order_middle (l : List R3) (h0 : 0 < l.length) (hn : l.length ≤ 12) (hl : ∀ r ∈ l, RatOk r 1000) : Ret Tryz.prog 65 [rsD l] (· = qD (midQ (l.map rv))) := by
  have hm := order_median l h0 hn hl
  have hq := mapq_ok hl
  have ho := srt_ok hq
  have hlen := srt_len (l.map rv)
  rw [List.length_map] at hlen
  have o1 : okQ 1000 (medLo (l.map rv)) := by unfold medLo; exact getD_ok ho (by rw [List.length_map]; omega)
  have o2 : okQ 1000 (medHi (l.map rv)) := by unfold medHi; exact getD_ok ho (by rw [List.length_map]; omega)
  have ha := rational_AddQ _ _ (o1.mono (by decide)) (o2.mono (by decide))
  have hh := order_half _ ((o1.add o2).mono (by decide))
  unfold midQ
  generalize medLo (l.map rv) = a at *
  generalize medHi (l.map rv) = b at *
  generalize (a + b) / 2 = m at *
  generalize a + b = c at *
  refine ret_of_awp tab Tryz.func65 rfl rfl (Nat.le_of_ble_eq_true rfl) (fun w0 F0 => ?_)
  repeat' (first
    | (show awpL _ _ _ _ _; first | refine goL ?_ | refine cl 54 tt rfl rfl rfl (hr := hm) (k := ?_) | refine cl 74 tt rfl rfl rfl (hr := ha) (k := ?_) | refine cl 80 tt rfl rfl rfl (hr := hh) (k := ?_) | (refine gdLG ?_ ?_ <;> intro _ <;> try (exfalso; omega)))
    | (show awp _ _ _ _; first | refine goA ?_ | (refine cdG ?_ ?_ <;> intro _ <;> try (exfalso; omega)))
    | (show andThen _ _ _ _; refine goN ?_)
    | (show inBlock _ _ _ _; refine goB ?_)
    | (show retPost _ _ _ _ _; refine finG ?_))
  rfl
theorem order_Median (l : List R3) (h0 : 0 < l.length) (hn : l.length ≤ 12) (hl : ∀ r ∈ l, RatOk r 1000) : Ret Tryz.prog 14 [rsD l] (· = .tup [qD (medLo (l.map rv)), qD (medHi (l.map rv)), .int .i64 0]) := by
  have hc := order_check l 1 (by omega)
  rw [show chkO l.length 1 = 0 by unfold chkO; rw [if_neg (by omega), if_neg (by omega)]] at hc
  have hm := order_median l h0 hn hl
  generalize medLo (l.map rv) = a at *
  generalize medHi (l.map rv) = b at *
  refine ret_of_awp tab Tryz.func14 rfl rfl (Nat.le_of_ble_eq_true rfl) (fun w0 F0 => ?_)
  repeat' (first
    | (show awpL _ _ _ _ _; first | refine goL ?_ | refine cl 53 tt rfl rfl rfl (hr := hc) (k := ?_) | refine cl 54 tt rfl rfl rfl (hr := hm) (k := ?_) | (refine gdLG ?_ ?_ <;> intro _ <;> try (exfalso; omega)))
    | (show awp _ _ _ _; first | refine goA ?_ | refine rgX 5 3 [] ?_ | (refine cdG ?_ ?_ <;> intro _ <;> try (exfalso; omega)))
    | (show andThen _ _ _ _; refine goN ?_)
    | (show inBlock _ _ _ _; refine goB ?_)
    | (show awpR _ _ _ _ _ _ _; first | refine goR ?_ | refine clR 53 tt rfl rfl rfl (hr := hc) (k := ?_) | refine clR 54 tt rfl rfl rfl (hr := hm) (k := ?_) | (refine gdRG ?_ ?_ <;> intro _ <;> try (exfalso; omega)))
    | (show retPost _ _ _ _ _; refine finG ?_))
  rfl
theorem order_Middle (l : List R3) (h0 : 0 < l.length) (hn : l.length ≤ 12) (hl : ∀ r ∈ l, RatOk r 1000) : Ret Tryz.prog 27 [rsD l] (· = .tup [qD (midQ (l.map rv)), .int .i64 0]) := by
  have hc := order_check l 1 (by omega)
  rw [show chkO l.length 1 = 0 by unfold chkO; rw [if_neg (by omega), if_neg (by omega)]] at hc
  have hm := order_middle l h0 hn hl
  generalize midQ (l.map rv) = a at *
  refine ret_of_awp tab Tryz.func27 rfl rfl (Nat.le_of_ble_eq_true rfl) (fun w0 F0 => ?_)
  repeat' (first
    | (show awpL _ _ _ _ _; first | refine goL ?_ | refine cl 53 tt rfl rfl rfl (hr := hc) (k := ?_) | refine cl 65 tt rfl rfl rfl (hr := hm) (k := ?_) | (refine gdLG ?_ ?_ <;> intro _ <;> try (exfalso; omega)))
    | (show awp _ _ _ _; first | refine goA ?_ | (refine cdG ?_ ?_ <;> intro _ <;> try (exfalso; omega)))
    | (show andThen _ _ _ _; refine goN ?_)
    | (show inBlock _ _ _ _; refine goB ?_)
    | (show retPost _ _ _ _ _; refine finG ?_))
  rfl
theorem order_Quantile (l : List R3) (p : R3) (h0 : 0 < l.length) (hn : l.length ≤ 12) (hl : ∀ r ∈ l, RatOk r 1000) (hp : RatOk p 1000) (p0 : 0 ≤ rv p) (p1 : rv p ≤ 1) : Ret Tryz.prog 29 [rsD l, rD p] (· = .tup [qD (qLo (l.map rv) (rv p)), qD (qHi (l.map rv) (rv p)), .int .i64 0]) := by
  have hc := order_check l 1 (by omega)
  rw [show chkO l.length 1 = 0 by unfold chkO; rw [if_neg (by omega), if_neg (by omega)]] at hc
  have sg := rational_Sign p (hp.up (by decide))
  have hs0 : 0 ≤ (rv p).num.sign := Int.sign_nonneg_iff.2 (Rat.num_nonneg.2 p0)
  have f1 := rational_FromIntW 1 (by decide) (by decide)
  rw [show ((1 : Int) : Rat) = 1 from rfl] at f1
  have c1 := rational_Compare p (rq 1) (hp.up (by decide)) (ok_rq (okQ_one.mono (by decide)))
  rw [rv_rq] at c1
  have hc1 : ¬ 0 < cmpQ (rv p) 1 := by rw [cmpQ_pos]; exact Rat.not_lt.2 p1
  have hs := order_Sort l hn hl
  have ho := srt_ok (mapq_ok hl)
  have hlen := srt_len (l.map rv)
  rw [List.length_map] at hlen
  have kp : okQ 1000 (rv p) := okQ_rv hp (by decide)
  have kn : okQ 10 ((l.length : Int) : Rat) := ok_intW (by omega)
  have fn := rational_FromIntW (l.length : Int) (by omega) (by omega)
  have mu := rational_Mul p (rq ((l.length : Int) : Rat)) (hp.up (by decide)) (ok_rq (kn.mono (by decide)))
  rw [rv_rq] at mu
  have fl := rational_FloorQ (rv p * ((l.length : Int) : Rat)) ((kp.mul kn).mono (by decide))
  have b0 := nonneg_floor (mul_nat_nonneg l.length p0)
  have bn := floor_le_nat (mul_nat_le l.length p1)
  unfold qLo qHi qFirst
  rw [List.length_map]
  have kat := kp.mul kn
  generalize rv p * ((l.length : Int) : Rat) = x at *
  generalize ((l.length : Int) : Rat) = nq at *
  generalize x.floor = f at *
  generalize srt (l.map rv) = s at *
  obtain ⟨k, rfl⟩ : ∃ m : Nat, f = m := ⟨f.toNat, by omega⟩
  have ti := integer_ToIntN k (by omega)
  have fk := rational_FromIntW (k : Int) (by omega) (by omega)
  have kk : okQ 10 ((k : Int) : Rat) := ok_intW (by omega)
  have ck := rational_CompareQ x ((k : Int) : Rat) (kat.mono (by decide)) (kk.mono (by decide))
  have zk := cmpQ_zero x ((k : Int) : Rat)
  generalize cmpQ (rv p) 1 = c0 at *
  generalize (1 : Rat) = one at *
  obtain ⟨c2, hc2⟩ : ∃ c, cmpQ x ((k : Int) : Rat) = c := ⟨_, rfl⟩
  rw [hc2] at ck zk
  generalize ((k : Int) : Rat) = kq at *
  generalize (rv p).num.sign = sp at *
  have hi2 := getD_ok ho (show (min (k : Int) ((l.length : Int) - 1)).toNat < s.length by omega)
  have a2 := rational_Add (rq (s.getD (min (k : Int) ((l.length : Int) - 1)).toNat 0)) r0 (ok_rq (hi2.mono (by decide))) (ok_r0 (by decide))
  rw [rv_r0, Rat.add_zero, rv_rq] at a2
  clear hc2 p0 p1 kp kn kat kk hi2
  by_cases hk : 0 < (k : Int) ∧ x = kq
  · rw [if_pos hk]
    have hz := zk.2 hk.2
    have hk0 := hk.1
    clear hk zk
    refine ret_of_awp tab Tryz.func29 rfl rfl (Nat.le_of_ble_eq_true rfl) (fun w0 F0 => ?_)
    repeat' (first
      | (show awpL _ _ _ _ _; first | refine goL ?_ | refine cl 53 tt rfl rfl rfl (hr := hc) (k := ?_) | refine cl 68 tt rfl rfl rfl (hr := sg) (k := ?_) | refine cl 70 tt rfl rfl rfl (hr := f1) (k := ?_) | refine cl 69 tt rfl rfl rfl (hr := c1) (k := ?_) | refine cl 47 tt rfl rfl rfl (hr := hs) (k := ?_) | refine cl 70 tt rfl rfl rfl (hr := fn) (k := ?_) | refine cl 71 tt rfl rfl rfl (hr := mu) (k := ?_) | refine cl 73 tt rfl rfl rfl (hr := fl) (k := ?_) | refine cl 72 tt rfl rfl rfl (hr := ti) (k := ?_) | refine cl 70 tt rfl rfl rfl (hr := fk) (k := ?_) | refine cl 69 tt rfl rfl rfl (hr := ck) (k := ?_) | refine cl 74 tt rfl rfl rfl (hr := a2) (k := ?_) | (refine gdLG ?_ ?_ <;> intro _ <;> try (exfalso; omega)))
      | (show awp _ _ _ _; first | refine goA ?_ | refine rg 4 6 ?_ | refine rgK 7 5 [10] ?_ | refine rg 10 6 ?_ | refine rg 12 16 ?_ | (refine cdG ?_ ?_ <;> intro _ <;> try (exfalso; omega)))
      | (show andThen _ _ _ _; refine goN ?_)
      | (show inBlock _ _ _ _; refine goB ?_)
      | (show awpR _ _ _ _ _ _ _; first | refine goR ?_ | refine clR 53 tt rfl rfl rfl (hr := hc) (k := ?_) | refine clR 68 tt rfl rfl rfl (hr := sg) (k := ?_) | refine clR 70 tt rfl rfl rfl (hr := f1) (k := ?_) | refine clR 69 tt rfl rfl rfl (hr := c1) (k := ?_) | refine clR 47 tt rfl rfl rfl (hr := hs) (k := ?_) | refine clR 70 tt rfl rfl rfl (hr := fn) (k := ?_) | refine clR 71 tt rfl rfl rfl (hr := mu) (k := ?_) | refine clR 73 tt rfl rfl rfl (hr := fl) (k := ?_) | refine clR 72 tt rfl rfl rfl (hr := ti) (k := ?_) | refine clR 70 tt rfl rfl rfl (hr := fk) (k := ?_) | refine clR 69 tt rfl rfl rfl (hr := ck) (k := ?_) | refine clR 74 tt rfl rfl rfl (hr := a2) (k := ?_) | (refine gdRG ?_ ?_ <;> intro _ <;> try (exfalso; omega)))
      | (show retPost _ _ _ _ _; refine finG ?_))
    rfl
  · rw [if_neg hk]
    by_cases hk0 : 0 < (k : Int)
    · have hz := mt zk.1 (fun e => hk ⟨hk0, e⟩)
      clear hk zk
      refine ret_of_awp tab Tryz.func29 rfl rfl (Nat.le_of_ble_eq_true rfl) (fun w0 F0 => ?_)
      repeat' (first
        | (show awpL _ _ _ _ _; first | refine goL ?_ | refine cl 53 tt rfl rfl rfl (hr := hc) (k := ?_) | refine cl 68 tt rfl rfl rfl (hr := sg) (k := ?_) | refine cl 70 tt rfl rfl rfl (hr := f1) (k := ?_) | refine cl 69 tt rfl rfl rfl (hr := c1) (k := ?_) | refine cl 47 tt rfl rfl rfl (hr := hs) (k := ?_) | refine cl 70 tt rfl rfl rfl (hr := fn) (k := ?_) | refine cl 71 tt rfl rfl rfl (hr := mu) (k := ?_) | refine cl 73 tt rfl rfl rfl (hr := fl) (k := ?_) | refine cl 72 tt rfl rfl rfl (hr := ti) (k := ?_) | refine cl 70 tt rfl rfl rfl (hr := fk) (k := ?_) | refine cl 69 tt rfl rfl rfl (hr := ck) (k := ?_) | refine cl 74 tt rfl rfl rfl (hr := a2) (k := ?_) | (refine gdLG ?_ ?_ <;> intro _ <;> try (exfalso; omega)))
        | (show awp _ _ _ _; first | refine goA ?_ | refine rg 4 6 ?_ | refine rgK 7 5 [10] ?_ | refine rg 10 6 ?_ | refine rg 12 16 ?_ | (refine cdG ?_ ?_ <;> intro _ <;> try (exfalso; omega)))
        | (show andThen _ _ _ _; refine goN ?_)
        | (show inBlock _ _ _ _; refine goB ?_)
        | (show awpR _ _ _ _ _ _ _; first | refine goR ?_ | refine clR 53 tt rfl rfl rfl (hr := hc) (k := ?_) | refine clR 68 tt rfl rfl rfl (hr := sg) (k := ?_) | refine clR 70 tt rfl rfl rfl (hr := f1) (k := ?_) | refine clR 69 tt rfl rfl rfl (hr := c1) (k := ?_) | refine clR 47 tt rfl rfl rfl (hr := hs) (k := ?_) | refine clR 70 tt rfl rfl rfl (hr := fn) (k := ?_) | refine clR 71 tt rfl rfl rfl (hr := mu) (k := ?_) | refine clR 73 tt rfl rfl rfl (hr := fl) (k := ?_) | refine clR 72 tt rfl rfl rfl (hr := ti) (k := ?_) | refine clR 70 tt rfl rfl rfl (hr := fk) (k := ?_) | refine clR 69 tt rfl rfl rfl (hr := ck) (k := ?_) | refine clR 74 tt rfl rfl rfl (hr := a2) (k := ?_) | (refine gdRG ?_ ?_ <;> intro _ <;> try (exfalso; omega)))
        | (show retPost _ _ _ _ _; refine finG ?_))
      rfl
    · clear hk zk
      refine ret_of_awp tab Tryz.func29 rfl rfl (Nat.le_of_ble_eq_true rfl) (fun w0 F0 => ?_)
      repeat' (first
        | (show awpL _ _ _ _ _; first | refine goL ?_ | refine cl 53 tt rfl rfl rfl (hr := hc) (k := ?_) | refine cl 68 tt rfl rfl rfl (hr := sg) (k := ?_) | refine cl 70 tt rfl rfl rfl (hr := f1) (k := ?_) | refine cl 69 tt rfl rfl rfl (hr := c1) (k := ?_) | refine cl 47 tt rfl rfl rfl (hr := hs) (k := ?_) | refine cl 70 tt rfl rfl rfl (hr := fn) (k := ?_) | refine cl 71 tt rfl rfl rfl (hr := mu) (k := ?_) | refine cl 73 tt rfl rfl rfl (hr := fl) (k := ?_) | refine cl 72 tt rfl rfl rfl (hr := ti) (k := ?_) | refine cl 74 tt rfl rfl rfl (hr := a2) (k := ?_) | (refine gdLG ?_ ?_ <;> intro _ <;> try (exfalso; omega)))
        | (show awp _ _ _ _; first | refine goA ?_ | refine rg 4 6 ?_ | refine rgK 7 5 [10] ?_ | refine rg 10 6 ?_ | refine rg 12 16 ?_ | (refine cdG ?_ ?_ <;> intro _ <;> try (exfalso; omega)))
        | (show andThen _ _ _ _; refine goN ?_)
        | (show inBlock _ _ _ _; refine goB ?_)
        | (show awpR _ _ _ _ _ _ _; first | refine goR ?_ | refine clR 53 tt rfl rfl rfl (hr := hc) (k := ?_) | refine clR 68 tt rfl rfl rfl (hr := sg) (k := ?_) | refine clR 70 tt rfl rfl rfl (hr := f1) (k := ?_) | refine clR 69 tt rfl rfl rfl (hr := c1) (k := ?_) | refine clR 47 tt rfl rfl rfl (hr := hs) (k := ?_) | refine clR 70 tt rfl rfl rfl (hr := fn) (k := ?_) | refine clR 71 tt rfl rfl rfl (hr := mu) (k := ?_) | refine clR 73 tt rfl rfl rfl (hr := fl) (k := ?_) | refine clR 72 tt rfl rfl rfl (hr := ti) (k := ?_) | refine clR 74 tt rfl rfl rfl (hr := a2) (k := ?_) | (refine gdRG ?_ ?_ <;> intro _ <;> try (exfalso; omega)))
        | (show retPost _ _ _ _ _; refine finG ?_))
      rfl
theorem order_distances (l : List R3) (m : Rat) (hn : l.length ≤ 12) (hl : ∀ r ∈ l, RatOk r 1000) (hm : okQ 3000 m) : Ret Tryz.prog 76 [rsD l, qD m] (· = qsD (distQ (l.map rv) m)) := by
  refine ret_of_awp tab Tryz.func76 rfl rfl (Nat.le_of_ble_eq_true rfl) (fun w0 F0 => ?_)
  repeat' (first
    | (show awpL _ _ _ _ _; first | refine goL ?_ | (refine gdLG ?_ ?_ <;> intro _ <;> try (exfalso; omega)))
    | (show awp _ _ _ _; first | refine goA ?_ | (refine cdG ?_ ?_ <;> intro _ <;> try (exfalso; omega)))
    | (show andThen _ _ _ _; refine goN ?_)
    | (show inBlock _ _ _ _; refine goB ?_)
    | (show retPost _ _ _ _ _; refine finG ?_))
  refine awp_adopt 5 500 30 3 qC 0 rfl ?_
  refine awp_loop1 (fun (i : Nat) => ([(3, .ptr 3 0), (5, .own 500 0 ((distQ (l.map rv) m).take i).length 30 3), (8, .d (rsD l)), (9, .d (.int .i64 l.length)), (10, .d (.int .i64 i))], [(3, .box 30 ((rC (rq m)).map V.d)), (500, .data 30 3 qC 0 ((distQ (l.map rv) m).take i))])) (fun i => i ≤ l.length) (fun i => l.length - i) 0 (by omega) ⟨rfl, rfl, rfl, rfl, rfl, rfl⟩ ⟨rfl, rfl, trivial⟩ (fun i hi => ?_)
  have hlen : ((distQ (l.map rv) m).take i).length = i := by simp [distQ]; omega
  by_cases h3 : i < l.length
  · have g1 : l.getD i r0 ∈ l := by rw [List.getD, List.getElem?_eq_getElem h3]; exact List.getElem_mem h3
    have hs := rational_Sub (l.getD i r0) (rq m) ((hl _ g1).up (by decide)) (ok_rq (hm.mono (by decide)))
    rw [rv_rq] at hs
    have kx : okQ 1000 (rv (l.getD i r0)) := okQ_rv (hl _ g1) (by decide)
    have ha := rational_AbsQ _ ((kx.sub hm).mono (by decide))
    have e : (distQ (l.map rv) m).take i ++ [absQ (rv (l.getD i r0) - m)] = (distQ (l.map rv) m).take (i + 1) := by
      rw [List.take_add_one]
      simp [distQ, h3, List.getD, List.getElem?_eq_getElem h3]
    repeat' (first
      | (show awpL _ _ _ _ _; first | refine goL ?_ | refine cl 115 tt rfl rfl rfl (hr := hs) (k := ?_) | refine cl 114 tt rfl rfl rfl (hr := ha) (k := ?_) | (refine gdLG ?_ ?_ <;> intro _ <;> try (exfalso; omega)))
      | (show awp _ _ _ _; first | refine goA ?_ | (refine cdG ?_ ?_ <;> intro _ <;> try (exfalso; omega)))
      | (show andThen _ _ _ _; refine goN ?_)
      | (show inBlock _ _ _ _; refine goB ?_)
      | (show retPost _ _ _ _ _; refine finG ?_))
    exact ⟨i + 1, by omega, by omega, ⟨rfl, by rw [← e]; rfl, rfl, rfl, iv (by omega), rfl⟩, rfl, by rw [← e]; rfl, trivial⟩
  · have e : (distQ (l.map rv) m).take i = distQ (l.map rv) m := List.take_of_length_le (by simp [distQ]; omega)
    rw [e] at hlen ⊢
    repeat' (first
      | (show awpL _ _ _ _ _; first | refine goL ?_ | (refine gdLG ?_ ?_ <;> intro _ <;> try (exfalso; omega)))
      | (show awp _ _ _ _; first | refine goA ?_ | (refine cdG ?_ ?_ <;> intro _ <;> try (exfalso; omega)))
      | (show andThen _ _ _ _; refine goN ?_)
      | (show inBlock _ _ _ _; refine goB ?_)
      | (show retPost _ _ _ _ _; refine finG ?_))
    all_goals rfl
theorem order_Deviation (l : List R3) (h0 : 0 < l.length) (hn : l.length ≤ 12) (hl : ∀ r ∈ l, RatOk r 100) : Ret Tryz.prog 33 [rsD l] (· = .tup [qD (midQ (distQ (l.map rv) (midQ (l.map rv)))), .int .i64 0]) := by
  have hc := order_check l 1 (by omega)
  rw [show chkO l.length 1 = 0 by unfold chkO; rw [if_neg (by omega), if_neg (by omega)]] at hc
  have hl2 : ∀ r ∈ l, RatOk r 1000 := fun r hr => (hl r hr).up (by decide)
  have hm := order_middle l h0 hn hl2
  have hq : ∀ q ∈ l.map rv, okQ 100 q := fun q hq => by
    obtain ⟨r, hr, rfl⟩ := List.mem_map.1 hq
    exact okQ_rv (hl r hr) (by decide)
  have km := midQ_ok hq (by rw [List.length_map]; exact h0)
  have hd := order_distances l (midQ (l.map rv)) hn hl2 (km.mono (by decide))
  have kd : ∀ q ∈ distQ (l.map rv) (midQ (l.map rv)), okQ 1000 q := fun q hq2 => by
    obtain ⟨x, hx, rfl⟩ := List.mem_map.1 hq2
    exact (absQ_ok ((hq x hx).sub km)).mono (by decide)
  have h2 := order_middle ((distQ (l.map rv) (midQ (l.map rv))).map rq) (by simp [distQ]; omega) (by simp [distQ]; omega) (fun r hr => by
    obtain ⟨q, hq2, rfl⟩ := List.mem_map.1 hr
    exact ok_rq (kd q hq2))
  rw [mapRvRq] at h2
  have h3 := h2.args (LeT.cons (leRsQ2 _) LeT.nil)
  generalize midQ (distQ (l.map rv) (midQ (l.map rv))) = a at *
  generalize distQ (l.map rv) (midQ (l.map rv)) = b at *
  generalize midQ (l.map rv) = c at *
  refine ret_of_awp tab Tryz.func33 rfl rfl (Nat.le_of_ble_eq_true rfl) (fun w0 F0 => ?_)
  repeat' (first
    | (show awpL _ _ _ _ _; first | refine goL ?_ | refine cl 53 tt rfl rfl rfl (hr := hc) (k := ?_) | refine cl 65 tt rfl rfl rfl (hr := hm) (k := ?_) | refine cl 76 tt rfl rfl rfl (hr := hd) (k := ?_) | refine cl 65 tt rfl rfl rfl (hr := h3) (k := ?_) | (refine gdLG ?_ ?_ <;> intro _ <;> try (exfalso; omega)))
    | (show awp _ _ _ _; first | refine goA ?_ | (refine cdG ?_ ?_ <;> intro _ <;> try (exfalso; omega)))
    | (show andThen _ _ _ _; refine goN ?_)
    | (show inBlock _ _ _ _; refine goB ?_)
    | (show retPost _ _ _ _ _; refine finG ?_))
  rfl
end Go.Proofs.YtfnckkfbnnbmkaaGreat

/-
  Quantiles split a list. Conditions: as each says.
-/
set_option linter.unusedVariables false
set_option linter.unusedSimpArgs false
namespace Go.Vw
def cntLe (l : List Rat) (v : Rat) : Nat := (l.filter fun x => decide (x ≤ v)).length
def cntGe (l : List Rat) (v : Rat) : Nat := (l.filter fun x => decide (v ≤ x)).length
theorem cntLe_perm {a b : List Rat} (h : a.Perm b) (v : Rat) : cntLe a v = cntLe b v := (h.filter _).length_eq
theorem cntGe_perm {a b : List Rat} (h : a.Perm b) (v : Rat) : cntGe a v = cntGe b v := (h.filter _).length_eq
theorem mem_take_le {s : List Rat} (h : AscQ s) {m : Nat} (hm : m < s.length) {x : Rat} (hx : x ∈ s.take (m + 1)) : x ≤ s.getD m 0 := by
  obtain ⟨i, hi, rfl⟩ := List.getElem_of_mem hx
  rw [List.length_take] at hi
  rw [List.getElem_take]
  have := asc_getD h (show i ≤ m by omega) hm
  rw [List.getD_eq_getElem?_getD, List.getElem?_eq_getElem (show i < s.length by omega)] at this
  exact this
theorem mem_drop_ge {s : List Rat} (h : AscQ s) {m : Nat} (hm : m < s.length) {x : Rat} (hx : x ∈ s.drop m) : s.getD m 0 ≤ x := by
  obtain ⟨i, hi, rfl⟩ := List.getElem_of_mem hx
  rw [List.length_drop] at hi
  rw [List.getElem_drop]
  have := asc_getD h (show m ≤ m + i by omega) (by omega)
  rw [List.getD_eq_getElem?_getD (i := m + i), List.getElem?_eq_getElem (show m + i < s.length by omega)] at this
  exact this
theorem cntLe_iff {s : List Rat} (h : AscQ s) {m : Nat} (hm : m < s.length) (v : Rat) : m + 1 ≤ cntLe s v ↔ s.getD m 0 ≤ v := by
  constructor
  · intro hc
    refine Rat.not_lt.1 fun hlt => ?_
    have e : cntLe s v = cntLe (s.take m) v + cntLe (s.drop m) v := by
      unfold cntLe
      rw [← List.length_append, ← List.filter_append, List.take_append_drop]
    have e2 : cntLe (s.drop m) v = 0 := by
      unfold cntLe
      rw [List.length_eq_zero_iff, List.filter_eq_nil_iff]
      intro x hx
      have := mem_drop_ge h hm hx
      simp only [decide_eq_true_eq]
      exact Rat.not_le.2 (by grind)
    have e3 : cntLe (s.take m) v ≤ m := Nat.le_trans (List.length_filter_le ..) (by rw [List.length_take]; omega)
    omega
  · intro hle
    have e : cntLe s v = cntLe (s.take (m + 1)) v + cntLe (s.drop (m + 1)) v := by
      unfold cntLe
      rw [← List.length_append, ← List.filter_append, List.take_append_drop]
    have e2 : cntLe (s.take (m + 1)) v = m + 1 := by
      unfold cntLe
      rw [List.filter_eq_self.2 (fun x hx => by
        have := mem_take_le h hm hx
        simp only [decide_eq_true_eq]
        exact Rat.le_trans this hle), List.length_take]
      omega
    omega
theorem cntGe_iff {s : List Rat} (h : AscQ s) {m : Nat} (hm : m < s.length) (v : Rat) : s.length - m ≤ cntGe s v ↔ v ≤ s.getD m 0 := by
  constructor
  · intro hc
    refine Rat.not_lt.1 fun hlt => ?_
    have e : cntGe s v = cntGe (s.take (m + 1)) v + cntGe (s.drop (m + 1)) v := by
      unfold cntGe
      rw [← List.length_append, ← List.filter_append, List.take_append_drop]
    have e2 : cntGe (s.take (m + 1)) v = 0 := by
      unfold cntGe
      rw [List.length_eq_zero_iff, List.filter_eq_nil_iff]
      intro x hx
      have := mem_take_le h hm hx
      simp only [decide_eq_true_eq]
      exact Rat.not_le.2 (by grind)
    have e3 : cntGe (s.drop (m + 1)) v ≤ s.length - (m + 1) := Nat.le_trans (List.length_filter_le ..) (by rw [List.length_drop]; exact Nat.le_refl _)
    omega
  · intro hle
    have e : cntGe s v = cntGe (s.take m) v + cntGe (s.drop m) v := by
      unfold cntGe
      rw [← List.length_append, ← List.filter_append, List.take_append_drop]
    have e2 : cntGe (s.drop m) v = s.length - m := by
      unfold cntGe
      rw [List.filter_eq_self.2 (fun x hx => by
        have := mem_drop_ge h hm hx
        simp only [decide_eq_true_eq]
        exact Rat.le_trans hle this), List.length_drop]
    omega
def splitsQ (l : List Rat) (p v : Rat) : Bool := !decide ((((cntLe l v : Nat) : Int) : Rat) < p * ((l.length : Int) : Rat)) && !decide ((((cntGe l v : Nat) : Int) : Rat) < (1 - p) * ((l.length : Int) : Rat))
theorem at_bounds {p : Rat} {n : Nat} (h0 : 0 < p) (h1 : p < 1) (hn : 0 < n) : 0 < p * ((n : Int) : Rat) ∧ p * ((n : Int) : Rat) < ((n : Int) : Rat) := by
  have hp : (0 : Rat) < ((n : Int) : Rat) := by
    have : ((0 : Int) : Rat) < ((n : Int) : Rat) := Rat.intCast_lt_intCast.2 (by omega)
    exact this
  refine ⟨Rat.mul_pos h0 hp, ?_⟩
  have := Rat.mul_lt_mul_of_pos_right h1 hp
  rwa [Rat.one_mul] at this
theorem splits_iff {l : List Rat} {p v : Rat} (h0 : 0 < p) (h1 : p < 1) (hn : 0 < l.length) : splitsQ l p v = (decide (qLo l p ≤ v) && decide (v ≤ qHi l p)) := by
  obtain ⟨a1, a2⟩ := at_bounds h0 h1 hn
  have hs := srt_asc l
  have hlen := srt_len l
  have e1 : (1 - p) * ((l.length : Int) : Rat) = ((l.length : Int) : Rat) - p * ((l.length : Int) : Rat) := by grind
  unfold splitsQ qLo qHi qFirst
  rw [e1, ← cntLe_perm (srt_perm l) v, ← cntGe_perm (srt_perm l) v]
  have f1 := Rat.floor_le (p * ((l.length : Int) : Rat))
  have f2 := Rat.lt_floor_add_one (p * ((l.length : Int) : Rat))
  have f3 : ∀ k : Int, k ≤ (p * ((l.length : Int) : Rat)).floor ↔ (k : Rat) ≤ p * ((l.length : Int) : Rat) := fun k => Rat.le_floor_iff
  have f0 : 0 ≤ (p * ((l.length : Int) : Rat)).floor := (f3 0).2 (Rat.le_of_lt a1)
  have fn : (p * ((l.length : Int) : Rat)).floor < l.length := Rat.floor_lt_iff.2 a2
  generalize p * ((l.length : Int) : Rat) = x at *
  generalize x.floor = k at *
  obtain ⟨k, rfl⟩ : ∃ m : Nat, k = m := ⟨k.toNat, by omega⟩
  have c2 : (!decide ((((cntGe (srt l) v : Nat) : Int) : Rat) < ((l.length : Int) : Rat) - x)) = decide (v ≤ (srt l).getD (min ((k : Nat) : Int) ((l.length : Int) - 1)).toNat 0) := by
    rw [show (min ((k : Nat) : Int) ((l.length : Int) - 1)).toNat = k by omega, ← decide_not]
    refine decide_eq_decide.2 ?_
    rw [← cntGe_iff hs (show k < (srt l).length by omega) v, Rat.not_lt, hlen]
    have h3 := f3 ((l.length : Int) - ((cntGe (srt l) v : Nat) : Int))
    rw [Rat.intCast_sub] at h3
    constructor
    · intro h
      have := h3.2 (by grind)
      omega
    · intro h
      have := h3.1 (by omega)
      grind
  rw [c2]
  congr 1
  by_cases hk : 0 < ((k : Nat) : Int) ∧ x = (((k : Nat) : Int) : Rat)
  · rw [if_pos hk, ← decide_not]
    refine decide_eq_decide.2 ?_
    rw [show (min (((k : Nat) : Int) - 1) ((l.length : Int) - 1)).toNat = k - 1 by omega, ← cntLe_iff hs (show k - 1 < (srt l).length by omega) v, Rat.not_lt, hk.2, Rat.intCast_le_intCast]
    omega
  · rw [if_neg hk, ← decide_not]
    refine decide_eq_decide.2 ?_
    rw [show (min ((k : Nat) : Int) ((l.length : Int) - 1)).toNat = k by omega, ← cntLe_iff hs (show k < (srt l).length by omega) v, Rat.not_lt]
    have hne : x ≠ (((k : Nat) : Int) : Rat) := by
      intro e
      by_cases h : 0 < ((k : Nat) : Int)
      · exact hk ⟨h, e⟩
      · have : k = 0 := by omega
        subst this
        rw [e] at a1
        exact absurd a1 (by decide)
    constructor
    · intro h
      have h4 : (((k : Nat) : Int) : Rat) < (((cntLe (srt l) v : Nat) : Int) : Rat) := by grind
      have := Rat.intCast_lt_intCast.1 h4
      omega
    · intro h
      have h4 : ((((k : Nat) : Int) + 1 : Int) : Rat) ≤ (((cntLe (srt l) v : Nat) : Int) : Rat) := Rat.intCast_le_intCast.2 (by omega)
      grind
theorem qLo_le_qHi (l : List Rat) (p : Rat) (hn : 0 < l.length) : qLo l p ≤ qHi l p := by
  unfold qLo qHi qFirst
  refine asc_getD (srt_asc l) ?_ (by rw [srt_len]; omega)
  split <;> omega
theorem floor_eq {x : Rat} {k : Int} (h1 : (k : Rat) ≤ x) (h2 : x < ((k + 1 : Int) : Rat)) : x.floor = k := by
  have a := Rat.le_floor_iff.2 h1
  have b := Rat.floor_lt_iff.2 h2
  omega
theorem half_floor (n : Nat) : ((1 / 2 : Rat) * ((n : Int) : Rat)).floor = ((n / 2 : Nat) : Int) := by
  have h1 : ((2 * ((n / 2 : Nat) : Int) : Int) : Rat) ≤ ((n : Int) : Rat) := Rat.intCast_le_intCast.2 (by omega)
  have h2 : ((n : Int) : Rat) < ((2 * (((n / 2 : Nat) : Int) + 1) : Int) : Rat) := Rat.intCast_lt_intCast.2 (by omega)
  rw [Rat.intCast_mul] at h1 h2
  rw [show ((2 : Int) : Rat) = 2 from rfl] at h1 h2
  refine floor_eq ?_ ?_
  · grind
  · grind
theorem half_at (n : Nat) : (1 / 2 : Rat) * ((n : Int) : Rat) = (((n / 2 : Nat) : Int) : Rat) ↔ n % 2 = 0 := by
  constructor
  · intro h
    have h2 : ((n : Int) : Rat) = ((2 * ((n / 2 : Nat) : Int) : Int) : Rat) := by
      rw [Rat.intCast_mul, show ((2 : Int) : Rat) = 2 from rfl]
      grind
    have := Rat.intCast_inj.1 h2
    omega
  · intro h
    have h2 : ((n : Int) : Rat) = ((2 * ((n / 2 : Nat) : Int) : Int) : Rat) := Rat.intCast_inj.2 (by omega)
    rw [Rat.intCast_mul, show ((2 : Int) : Rat) = 2 from rfl] at h2
    grind
theorem med_half (l : List Rat) (hn : 0 < l.length) : qLo l (1 / 2) = medLo l ∧ qHi l (1 / 2) = medHi l := by
  unfold qLo qHi medLo medHi qFirst
  rw [half_floor]
  constructor
  · congr 1
    by_cases h : l.length % 2 = 0
    · rw [if_pos ⟨by omega, (half_at _).2 h⟩]; omega
    · rw [if_neg (fun hc => h ((half_at _).1 hc.2))]; omega
  · congr 1
    omega
end Go.Vw
