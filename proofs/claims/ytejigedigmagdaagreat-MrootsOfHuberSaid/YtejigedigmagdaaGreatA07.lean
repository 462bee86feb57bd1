/-
  Contracts of functions of the program, and the layer that they are walked with: R07 Sorts ItvB ItvC ItvD ItvE OrdersA Pdq VZ W14 W15 W15b N18b W01 VW VX VY W03 Plots W04 W11 W12 VV VU OrdersB OrdersC OrdersD OrdersE W20 PolA PolB. Conditions: as each says.
-/
import Derived.Sort.AssemblyPlain
import Derived.Deep.Slices
import Derived.Carry
import Derived.OpenShut
import Derived.WalkKit
import Derived.ProofKit
import Derived.Deep.DeepHandedRow
import Derived.Lib.LaidTab
import Derived.Test.YtejigedigmagdaaGreatA06
set_option linter.unnecessarySimpa false
set_option linter.unusedVariables false
set_option linter.unusedSimpArgs false
set_option maxHeartbeats 8000000
namespace Go.Proofs.YtejigedigmagdaaGreat
open Go.Vw
attribute [local irreducible] awp awpL awpR

theorem rq_int (z : Int) : rq (z : Rat) = zR z := by
  unfold rq zR
  rw [Rat.num_intCast, Rat.den_intCast]
  rfl
theorem okQ_int {z : Int} (h : z.natAbs < 4294967296) : okQ 10000000 (z : Rat) := by
  unfold okQ
  rw [Rat.num_intCast, Rat.den_intCast, limbs_one]
  exact ⟨Nat.lt_of_le_of_lt (len_small h) (by decide), by decide⟩
end Go.Proofs.YtejigedigmagdaaGreat

/-
  Lists of rational numbers in ascending order: by insertion in place, and by insertion into a new list. Conditions: as each says.
-/
namespace Go.Vw
def srt (l : List Rat) : List Rat := l.mergeSort fun a b => decide (a ≤ b)
def AscQ (l : List Rat) : Prop := l.Pairwise (· ≤ ·)
theorem srt_perm (l : List Rat) : (srt l).Perm l := List.mergeSort_perm _ _
theorem srt_asc (l : List Rat) : AscQ (srt l) := by
  have h := List.pairwise_mergeSort (le := fun a b : Rat => decide (a ≤ b)) (fun a b c h1 h2 => by
    simp only [decide_eq_true_eq] at *
    exact Rat.le_trans h1 h2) (fun a b => by
    rcases Rat.le_total (a := a) (b := b) with h | h <;> simp [h]) l
  exact List.Pairwise.imp (fun h => of_decide_eq_true h) h
theorem asc_unique {a b : List Rat} (ha : AscQ a) (hb : AscQ b) (h : a.Perm b) : a = b :=
  List.Perm.eq_of_pairwise (le := fun x y : Rat => x ≤ y) (fun x y _ _ h1 h2 => Rat.le_antisymm h1 h2) ha hb h
theorem srt_unique {a l : List Rat} (ha : AscQ a) (h : a.Perm l) : a = srt l := asc_unique ha (srt_asc l) (h.trans (srt_perm l).symm)
theorem srt_len (l : List Rat) : (srt l).length = l.length := (srt_perm l).length_eq
theorem asc_of_getD {l : List Rat} (h : ∀ i j, i < j → j < l.length → l.getD i 0 ≤ l.getD j 0) : AscQ l := by
  refine List.pairwise_iff_getElem.2 fun i j hi hj hij => ?_
  have := h i j hij hj
  simpa [List.getD_eq_getElem?_getD, hi, hj] using this
end Go.Vw

/-
  Intervals of rational numbers: the two ways to the same results. Conditions: as each says.
-/
namespace Go.Vw
@[reducible] def iC (a b : R3) : List D := [.bool a.1, u32s a.2.1, u32s a.2.2, .bool b.1, u32s b.2.1, u32s b.2.2]
abbrev zR3 : List V := [.d (.bool false), .d .nils, .d .nils]
abbrev zI : List V := [.d (.bool false), .d .nils, .d .nils, .d (.bool false), .d .nils, .d .nils]
theorem rv_r0 : rv r0 = 0 := by rw [← rq_zero, rv_rq]
theorem ok_r0 {k : Nat} (h : 1 < k) : RatOk r0 k := by
  have h0 : (0 : Nat) < k := Nat.lt_of_succ_lt h
  exact ⟨by intro x hx; exact absurd hx (by simp [r0]), by intro x hx; exact absurd hx (by simp [r0]), by simpa [r0] using h0, by simpa [r0] using h0⟩
def twoQ (n : Nat) : Rat := ((2 ^ n : Nat) : Int)
theorem twoQ_ne (n : Nat) : twoQ n ≠ 0 := by
  have h : (2 : Nat) ^ n ≠ 0 := Nat.ne_of_gt (Nat.two_pow_pos n)
  unfold twoQ
  intro hc
  have hh : (((2 ^ n : Nat) : Int) : Rat) = ((0 : Int) : Rat) := hc
  have := Rat.intCast_inj.1 hh
  omega
end Go.Vw

/-
  Intervals of rational numbers: what holds of the results of the operations. Conditions: as each says.
-/
namespace Go.Vw
def In (i : I2) (v : Rat) : Prop := i.1 ≤ v ∧ v ≤ i.2
theorem withinI_iff {i j : I2} : withinI i j = true ↔ j.1 ≤ i.1 ∧ i.2 ≤ j.2 := by unfold withinI; simp
theorem In.mono {i j : I2} {v : Rat} (h : withinI i j = true) (hv : In i v) : In j v := by
  have := withinI_iff.1 h
  exact ⟨Rat.le_trans this.1 hv.1, Rat.le_trans hv.2 this.2⟩
theorem mulR {a b c : Rat} (h : a ≤ b) (hc : 0 ≤ c) : a * c ≤ b * c := Rat.mul_le_mul_of_nonneg_right h hc
theorem mulRn {a b c : Rat} (h : a ≤ b) (hc : c ≤ 0) : b * c ≤ a * c := by
  have := Rat.mul_le_mul_of_nonneg_right (c := -c) h (by grind)
  grind
theorem lin {m n x y a b : Rat} (h1 : a ≤ x) (h2 : x ≤ b) (ha : m ≤ a * y ∧ a * y ≤ n) (hb : m ≤ b * y ∧ b * y ≤ n) : m ≤ x * y ∧ x * y ≤ n := by
  rcases Rat.le_total (a := 0) (b := y) with h | h
  · exact ⟨Rat.le_trans ha.1 (mulR h1 h), Rat.le_trans (mulR h2 h) hb.2⟩
  · exact ⟨Rat.le_trans hb.1 (mulRn h2 h), Rat.le_trans (mulRn h1 h) ha.2⟩
end Go.Vw

/-
  Square roots in intervals: what holds of the interval of a root. Conditions: as each says.
-/
namespace Go.Vw
theorem twoQ_eq (n : Nat) : twoQ n = ((2 ^ n : Nat) : Rat) := rfl
theorem twoQ_pos (n : Nat) : 0 < twoQ n := by
  have h := twoQ_ne n
  have h2 : (0 : Rat) ≤ twoQ n := by
    rw [twoQ_eq]
    exact Rat.natCast_nonneg
  grind
theorem okQ_natI {m k : Nat} (h : (limbs m).length < k) (hk : 1 < k) : okQ k (((m : Nat) : Int) : Rat) := by
  refine ⟨?_, ?_⟩
  · rw [Rat.num_intCast, Int.natAbs_natCast]; exact h
  · rw [Rat.den_intCast, limbs_one]; exact hk
theorem div_mul_cancel' {a b : Rat} (h : b ≠ 0) : a / b * b = a := by rw [Rat.div_def, Rat.mul_assoc, Rat.inv_mul_cancel b h, Rat.mul_one]
end Go.Vw

/-
  Intervals of rational numbers: how long the results are. Conditions: as each says.
-/
namespace Go.Vw
theorem okQ_one : okQ 2 1 := ⟨by show (limbs 1).length < 2; rw [limbs_one]; decide, by show (limbs 1).length < 2; rw [limbs_one]; decide⟩
theorem okI.mono {k l : Nat} {i : I2} (h : okI k i) (hl : k ≤ l) : okI l i := ⟨h.1.mono hl, h.2.mono hl⟩
theorem sign_zero_iff {q : Rat} : q.num.sign = 0 ↔ q = 0 := by rw [Int.sign_eq_zero_iff_zero, Rat.num_eq_zero]
end Go.Vw

/-
  Medians and quantiles of rational numbers. Conditions: as each says.
-/
namespace Go.Vw
def absQ (x : Rat) : Rat := if x < 0 then -x else x
theorem srt_ok {k : Nat} {l : List Rat} (h : ∀ q ∈ l, okQ k q) : ∀ q ∈ srt l, okQ k q := fun q hq => h q ((srt_perm l).subset hq)
theorem okQ_two2 : okQ 2 2 := ⟨by show (limbs 2).length < 2; rw [limbs_small (by decide) (by decide)]; decide, by show (limbs 1).length < 2; rw [limbs_one]; decide⟩
end Go.Vw

/-
  Lists of rational numbers as arrays: how the library's laws of sorting speak of them. Conditions: as each says.
-/
namespace Go.Vw
open Go.Sort hiding swp
def ltQ (x y : Rat) : Bool := decide (x < y)
theorem ltQ_iff {x y : Rat} : ltQ x y = true ↔ x < y := by simp [ltQ]
theorem ltQ_not {x y : Rat} : ltQ x y = false ↔ y ≤ x := by simp [ltQ, Rat.not_lt]
theorem swoQ : SWO ltQ where
  irrefl x := by rw [ltQ_not]; exact Rat.le_refl
  trans x y z h1 h2 := by rw [ltQ_iff] at *; grind
  ntrans x y z h1 h2 := by rw [ltQ_not] at *; exact Rat.le_trans h2 h1
theorem getQ (d : Array Rat) (i : Nat) : d.toList.getD i 0 = d[i]! := by
  rw [List.getD_eq_getElem?_getD, Array.getElem?_toList]
  by_cases h : i < d.size
  · rw [getElem!_pos d i h, Array.getElem?_eq_getElem h]; rfl
  · rw [getElem!_neg d i h, Array.getElem?_eq_none (by omega)]; rfl
theorem swp_toList (d : Array Rat) (i j : Nat) : (Go.Sort.swp d i j).toList = (d.toList.set i (d.toList.getD j 0)).set j (d.toList.getD i 0) := by
  unfold Go.Sort.swp
  rw [Array.toList_setIfInBounds, Array.toList_setIfInBounds, getQ, getQ]
theorem blkSw {ty : TypeId} {sz : Nat} {e : Rat → List D} {z : Rat} {d : Array Rat} {i j a b a' b' : Nat} (h1 : a = i := by omega) (h2 : b = j := by omega) (h3 : a' = i := by omega) (h4 : b' = j := by omega) : some (Blk.data ty sz e z ((d.toList.set a (d.toList.getD b 0)).set b' (d.toList.getD a' 0))) = some (Blk.data ty sz e z (Go.Sort.swp d i j).toList) := by
  subst h1 h2 h3 h4
  rw [swp_toList]
def AllOk (d : Array Rat) : Prop := ∀ q ∈ d.toList, okQ 1000 q
theorem AllOk.get {d : Array Rat} (h : AllOk d) {i : Nat} (hi : i < d.size) : okQ 1000 (d.toList.getD i 0) := getD_ok h (by simpa using hi)
theorem AllOk.iff {d : Array Rat} : AllOk d ↔ ∀ i, i < d.size → okQ 1000 d[i]! := by
  constructor
  · intro h i hi
    rw [← getQ]; exact h.get hi
  · intro h q hq
    obtain ⟨i, hi, rfl⟩ := List.getElem_of_mem hq
    have hi' : i < d.size := by simpa using hi
    have := h i hi'
    rw [getElem!_pos d i hi'] at this
    simpa using this
theorem AllOk.perm {d d' : Array Rat} (h : AllOk d) {a b : Nat} (hab : a ≤ b) (hb : b ≤ d.size) (hp : PermIn a b d d') : AllOk d' := by
  rw [AllOk.iff] at *
  rw [hp.1]
  intro i hi
  exact permIn_all d d' 0 d.size (fun q => okQ 1000 q) (Nat.le_refl _) (permIn_mono d d' a b 0 d.size (Nat.zero_le _) hb (Nat.le_refl _) hp) (fun i _ hi => h i hi) i (Nat.zero_le _) hi
theorem AllOk.swp {d : Array Rat} (h : AllOk d) {i j : Nat} (hi : i < d.size) (hj : j < d.size) : AllOk (Go.Sort.swp d i j) := h.perm (Nat.zero_le d.size) (Nat.le_refl _) (swp_permIn d 0 d.size i j (Nat.zero_le _) hi (Nat.zero_le _) hj (Nat.le_refl _))
def srtIn (d : Array Rat) (a b : Nat) : Array Rat := insertionSort ltQ d a b
theorem srtIn_perm {d : Array Rat} {a b : Nat} (hab : a ≤ b) (hb : b ≤ d.size) : PermIn a b d (srtIn d a b) := (insertionSort_holds swoQ d a b hab hb).1
theorem srtIn_asc {d : Array Rat} {a b : Nat} (hab : a ≤ b) (hb : b ≤ d.size) : SortedIn ltQ a b (srtIn d a b) := (insertionSort_holds swoQ d a b hab hb).2
theorem srtIn_size {d : Array Rat} {a b : Nat} (hab : a ≤ b) (hb : b ≤ d.size) : (srtIn d a b).size = d.size := (srtIn_perm hab hb).1
theorem srtIn_all (d : Array Rat) : (srtIn d 0 d.size).toList = srt d.toList := by
  have hp := srtIn_perm (d := d) (Nat.zero_le d.size) (Nat.le_refl _)
  have hs := srtIn_asc (d := d) (Nat.zero_le d.size) (Nat.le_refl _)
  refine srt_unique (asc_of_getD fun i j hij hj => ?_) ?_
  · rw [getQ, getQ]
    exact ltQ_not.1 (hs i j (Nat.zero_le _) hij (by rw [← hp.1]; simpa using hj))
  · have := hp.2.2
    have e := hp.1
    generalize srtIn d 0 d.size = x at *
    rw [← e, show x.extract 0 x.size = x by simp, e, show d.extract 0 d.size = d by simp] at this
    exact this
end Go.Vw

/-
  A variable's data in another form; reading a literal as a list. Conditions: as each says.
-/
namespace Go.Vw
theorem awp_cast {X : Ctx} {c : Code} {Q : Exit → St → Prop} {s : St} (t : Nat) {x : D} (y : D) (ht : s.tmps t = .d x) (hle : LeD x y) (h : awp X c Q (s.put (some t) (.d y))) : awp X c Q s := fun io F a w hs => by
  refine h io F a w ⟨hs.kept, fun u => ?_, hs.nt, hs.df, hs.bl, hs.inj, hs.ff, hs.f0, hs.st⟩
  rw [put_keys]
  simp only [St.put]
  cases hb : Nat.beq u t with
  | true =>
    have := Nat.eq_of_beq_eq_true hb
    subst this
    have hv := hs.tm u
    rw [ht] at hv
    simp only [cond_true, VR] at hv ⊢
    exact hle F w _ hv
  | false => simpa using hs.tm u
section
variable {X : Ctx} {all : Array Oper} {s : St} {o : Oper} {Q : Exit → St → Prop} {rest : List Oper} {d : Tmp} {α : Type} {en : α → List D} {z : α} {l : List α}
theorem e_litO {e : TypeId} {sz len : Nat} {rows : List (List D)} {dst : Option Tmp} {op : Op} {ty : TypeId} {pos : String} {after : Array Edge} {g : Option (Nat × Bool)} (hdst : dst = some d) (hg : gd all s ⟨dst, op, ty, pos, after, g⟩ = some true) (hd : dstOk X.N (some d) = true) (hK : X.K.contains d = false) (h : evalB X.T s op = some (e, sz, len, rows)) (hr : LeR sz rows en l) :
    E1 X all s ⟨dst, op, ty, pos, after, g⟩ ((s.new d (.data e sz en z l)).put (some d) (.own d 0 len e sz)) := by
  subst hdst
  intro io F a w hs K Q hQ
  have hw := gd_sound (fun t _ => hs.tm t) hg
  obtain ⟨h1, arr, h2, h3, h4, h5⟩ := evalB_sound (P := X.P) (ev := a.eval) X.ok ⟨some d, op, ty, pos, after, g⟩ (fun y _ => hs.opd y) h
  obtain ⟨r1, r2⟩ := hr.spec
  have hlra : LRA F w (fun j => arr[j]?) 0 sz en l := fun i b hi => by
    have hlt : i < rows.length := by have := (List.getElem?_eq_some_iff.1 hi).1; omega
    obtain ⟨q1, q2⟩ := r2 i _ b (List.getElem?_eq_getElem hlt) hi
    obtain ⟨p1, p2⟩ := h5 i _ (List.getElem?_eq_getElem hlt)
    exact ⟨q2.1 ▸ q1, by rw [Nat.zero_add]; exact q2.2 F w _ _ p2⟩
  have hnb := hs.newBlk d (notMem hK) e arr (.data e sz en z l) (.inl ⟨_, _, _, _, _, rfl, hlra⟩)
  refine opWp_value hw h2 (hQ _ F _ _ (hnb.put (dstOk_sound hd) ?_))
  simp only [VR]
  refine .inr ⟨w.heap.size, len, _, updio_same _ _ _, by rw [Nat.zero_mul], by omega, by unfold maxLen; omega, heap_alloc_new w _, by simp [h3], ?_⟩
  show 0 + len ≤ (s.new d _).ln d
  rw [show (s.new d (.data e sz en z l)).ln d = _ from ln_of withBlk_same]
  simp [Blk.ln]; omega
theorem stepLitO {e : TypeId} {sz len : Nat} {rows : List (List D)} (hdst : o.dst = some d) (h : evalB X.T s o.op = some (e, sz, len, rows)) (hg : gd all s o = some true) (hd : dstOk X.N (some d) = true) (hK : X.K.contains d = false) (hr : LeR sz rows en l) (r : awpL X all rest Q ((s.new d (.data e sz en z l)).put (some d) (.own d 0 len e sz))) : awpL X all (o :: rest) Q s := by
  obtain ⟨dst, op, ty, pos, after, g⟩ := o
  exact awpL_step (e_litO hdst hg hd hK h hr) r
end
end Go.Vw

set_option maxHeartbeats 8000000
namespace Go.Proofs.YtejigedigmagdaaGreat
open Go.Vw
attribute [local irreducible] awp awpL awpR

abbrev bq (d : Array Rat) : Blk := .data 27 3 qC 0 d.toList
abbrev ow (d : Array Rat) : V := .own 1000 0 d.size 27 3
abbrev cmpV : V := .fn 109 []
theorem cmpR (x y : Rat) (hx : okQ 1000 x) (hy : okQ 1000 y) : ∃ u : Int, -1 ≤ u ∧ u ≤ 1 ∧ (u < 0 ↔ ltQ x y = true) ∧ Ret Tryz.prog 109 [qD x, qD y] (· = .int .i64 u) :=
  ⟨cmpQ x y, (cmpQ_range x y).1, (cmpQ_range x y).2, by rw [cmpQ_neg, ltQ_iff], rational_CompareQ x y (hx.mono (by decide)) (hy.mono (by decide))⟩
end Go.Proofs.YtejigedigmagdaaGreat

set_option maxHeartbeats 8000000
namespace Go.Proofs.YtejigedigmagdaaGreat
open Go.Vw
attribute [local irreducible] awp awpL awpR

theorem insInner_ok (a : Nat) : ∀ (j : Nat) (m : Array Rat), j < m.size → AllOk m → (Go.Sort.insInner ltQ a j m).size = m.size ∧ AllOk (Go.Sort.insInner ltQ a j m)
  | 0, m, h, hm => ⟨rfl, hm⟩
  | j + 1, m, h, hm => by
    unfold Go.Sort.insInner
    split
    · have := insInner_ok a j (Go.Sort.swp m (j + 1) j) (by rw [Go.Sort.size_swp]; omega) (hm.swp h (by omega))
      rw [Go.Sort.size_swp] at this
      exact this
    · exact ⟨rfl, hm⟩
theorem sl_insertion (d : Array Rat) (a b : Nat) (hd : AllOk d) (hn : d.size < 10000000000) (hab : a ≤ b) (hb : b ≤ d.size) : RetB Tryz.prog 213 [ow d, .d (.int .i64 a), .d (.int .i64 b), cmpV] (lookB [(1000, bq d)]) (.tup []) (lookB [(1000, bq (srtIn d a b))]) := by
  have hl : d.toList.length = d.size := Array.length_toList
  have hr := srtIn_size hab hb
  obtain ⟨R, hR⟩ : ∃ R, srtIn d a b = R := ⟨_, rfl⟩
  have hR2 : Go.Sort.insOuter ltQ a b (a + 1) d = R := hR
  rw [hR] at hr ⊢
  clear hR
  refine retB_of_awp tab [1000] Tryz.func213 rfl rfl rfl (Nat.le_of_ble_eq_true rfl) rfl ⟨by show d.toList.length ≤ R.toList.length; simp [hr], trivial⟩ (fun w0 F0 A io0 => ?_)
  repeat' (first | refine wG ?_ | refine rg 4 14 ?_ | refine rg 6 16 ?_ | refine wS ?_ ?_ <;> intro _ | refine wB ?_ ?_)
  refine awp_loop2 (fun (m : Array Rat) (i : Nat) => ([(0, ow d), (1, .d (.int .i64 a)), (2, .d (.int .i64 b)), (3, cmpV), (8, .d (.int .i64 i))], [(1000, bq m)])) (fun m i => m.size = d.size ∧ AllOk m ∧ a < i ∧ i ≤ b + 1 ∧ Go.Sort.insOuter ltQ a b i m = R) (fun m i => b + 1 - i) d (a + 1) ⟨rfl, hd, by omega, by omega, hR2⟩ ⟨rfl, rfl, rfl, rfl, rfl, rfl⟩ ⟨rfl, trivial⟩ (fun m i hi => ?_)
  obtain ⟨h1, h2, h3, h4, h5⟩ := hi
  have hml : m.toList.length = m.size := Array.length_toList
  clear hR2
  rw [Go.Sort.insOuter] at h5
  by_cases h : i < b
  · rw [if_pos h] at h5
    obtain ⟨F, hF⟩ : ∃ F, Go.Sort.insInner ltQ a i m = F := ⟨_, rfl⟩
    have hFo := insInner_ok a i m (by omega) h2
    rw [hF] at h5 hFo
    repeat' (first | refine wG ?_ | refine rg 4 14 ?_ | refine rg 6 16 ?_ | refine wS ?_ ?_ <;> intro _ | refine wB ?_ ?_)
    refine awp_loop2 (fun (k : Array Rat) (j : Nat) => ([(0, ow d), (1, .d (.int .i64 a)), (2, .d (.int .i64 b)), (3, cmpV), (8, .d (.int .i64 i)), (9, .d (.int .i64 j))], [(1000, bq k)])) (fun k j => j ≤ i ∧ a ≤ j ∧ k.size = d.size ∧ AllOk k ∧ Go.Sort.insInner ltQ a j k = F) (fun k j => j) m i ⟨Nat.le_refl _, by omega, h1, h2, hF⟩ ⟨rfl, rfl, rfl, rfl, rfl, rfl, rfl⟩ ⟨rfl, trivial⟩ (fun k j hj => ?_)
    obtain ⟨j1, j2, j3, j4, j5⟩ := hj
    have hkl : k.toList.length = k.size := Array.length_toList
    clear hF h2 hd
    by_cases ha : a < j
    · obtain ⟨q, rfl⟩ : ∃ q, j = q + 1 := ⟨j - 1, by omega⟩
      have ek : (((q + 1 : Nat) : Int) - 1).toNat = q := by omega
      obtain ⟨u, u1, u2, hu, c⟩ := cmpR (k.toList.getD (q + 1) 0) (k.toList.getD (((q + 1 : Nat) : Int) - 1).toNat 0) (j4.get (by omega)) (j4.get (by omega))
      rw [ek, getQ, getQ] at hu
      unfold Go.Sort.insInner at j5
      rw [decide_eq_true (show q + 1 > a from ha), Bool.true_and] at j5
      by_cases g : ltQ k[q + 1]! k[q]! = true
      · rw [if_pos g] at j5
        have g2 := hu.2 g
        clear hu g
        repeat' (first | refine wG ?_ | refine wC c ?_ | refine rg 4 14 ?_ | refine rg 6 16 ?_ | refine wS ?_ ?_ <;> intro _ | refine wB ?_ ?_)
        exact ⟨Go.Sort.swp k (q + 1) q, q, ⟨by omega, by omega, by rw [Go.Sort.size_swp]; exact j3, j4.swp (by omega) (by omega), j5⟩, by omega, ⟨rfl, rfl, rfl, rfl, rfl, iv (by omega), rfl⟩, blkSw, trivial⟩
      · rw [if_neg g] at j5
        have g2 := mt hu.1 g
        clear hu g
        subst j5
        repeat' (first | refine wG ?_ | refine wC c ?_ | refine rg 4 14 ?_ | refine rg 6 16 ?_ | refine wS ?_ ?_ <;> intro _ | refine wB ?_ ?_)
        exact ⟨k, i + 1, ⟨j3, j4, by omega, by omega, h5⟩, by omega, ⟨rfl, rfl, rfl, rfl, iv (by omega), rfl⟩, rfl, trivial⟩
    · have e : k = F := by
        rw [← j5]
        cases j with
        | zero => rfl
        | succ q =>
          unfold Go.Sort.insInner
          rw [decide_eq_false (show ¬ q + 1 > a from ha), Bool.false_and, if_neg (by decide)]
      subst e
      clear j5
      repeat' (first | refine wG ?_ | refine rg 4 14 ?_ | refine rg 6 16 ?_ | refine wS ?_ ?_ <;> intro _ | refine wB ?_ ?_)
      exact ⟨k, i + 1, ⟨j3, j4, by omega, by omega, h5⟩, by omega, ⟨rfl, rfl, rfl, rfl, iv (by omega), rfl⟩, rfl, trivial⟩
  · rw [if_neg h] at h5
    subst h5
    repeat' (first | refine wG ?_ | refine rg 4 14 ?_ | refine rg 6 16 ?_ | refine wS ?_ ?_ <;> intro _ | refine wB ?_ ?_)
    all_goals first | exact leVT | exact ⟨rfl, trivial⟩
end Go.Proofs.YtejigedigmagdaaGreat

set_option maxHeartbeats 8000000
namespace Go.Proofs.YtejigedigmagdaaGreat
open Go.Vw
attribute [local irreducible] awp awpL awpR
def len8 (x : Nat) : Nat := if x = 0 then 0 else x.log2 + 1
theorem len8_le (x : Nat) (hx : x < 256) : len8 x ≤ 8 ∧ (0 < x → 2 ^ len8 x ≤ 2 * x) ∧ x < 2 ^ len8 x := by
  revert x
  decide +kernel
set_option maxRecDepth 100000 in
theorem bits_Len64 (x : Nat) (hx : x < 256) : Ret Tryz.prog 222 [.int .u64 x] (· = .int .i64 (len8 x)) := by
  refine ret_of_awp tab Tryz.func222 rfl rfl (Nat.le_of_ble_eq_true rfl) (fun w0 F0 => ?_)
  repeat' (first | refine wG ?_ | refine wS ?_ ?_ <;> intro _ | refine finG ?_)
  · refine stepQ false tt stt rfl rfl rfl ⟨by omega, Nat.lt_of_lt_of_le (show _ < 256 by omega) (Nat.le_of_ble_eq_true rfl)⟩ ?_
    refine awpL_byte 22 rfl (fun n hn he => ?_)
    repeat' (first | refine wG ?_ | refine wS ?_ ?_ <;> intro _ | refine finG ?_)
    have e : n = len8 x := by
      rw [he]
      clear he
      revert x
      decide +kernel
    rw [e]
    congr 1 <;> omega
theorem bits_Len (x : Nat) (hx : x < 256) : Ret Tryz.prog 198 [.int .u64 x] (· = .int .i64 (len8 x)) := by
  have h := bits_Len64 x hx
  generalize len8 x = n at *
  refine ret_of_awp tab Tryz.func198 rfl rfl (Nat.le_of_ble_eq_true rfl) (fun w0 F0 => ?_)
  repeat' (first | refine wG ?_ | refine wC h ?_ | refine wS ?_ ?_ <;> intro _ | refine finG ?_)
  rfl
end Go.Proofs.YtejigedigmagdaaGreat

set_option maxHeartbeats 8000000
namespace Go.Proofs.YtejigedigmagdaaGreat
open Go.Vw
attribute [local irreducible] awp awpL awpR

end Go.Proofs.YtejigedigmagdaaGreat

set_option maxHeartbeats 4000000
namespace Go.Proofs.YtejigedigmagdaaGreat
open Go.Vw
attribute [local irreducible] awp awpL awpR

def I64 (l : List Int) : Prop := ∀ x ∈ l, -9223372036854775808 ≤ x ∧ x < 9223372036854775808
theorem I64.getD {l : List Int} (h : I64 l) (i : Nat) : -9223372036854775808 ≤ l.getD i 0 ∧ l.getD i 0 < 9223372036854775808 := by
  rw [List.getD_eq_getElem?_getD]
  by_cases hi : i < l.length
  · rw [List.getElem?_eq_getElem hi]; exact h _ (List.getElem_mem hi)
  · rw [List.getElem?_eq_none (by omega)]; decide
theorem ref03_FromIntW (v : Int) (h1 : -9223372036854775808 ≤ v) (h2 : v < 9223372036854775808) : Ret Tryz.prog 27 [.int .i64 v] (· = qD (v : Rat)) := by
  have := ref03_FromInt v h1 h2
  rw [← rq_int] at this
  exact this
theorem ok_intW {v : Int} (h : v.natAbs < 18446744073709551616) : okQ 10 (v : Rat) := by
  refine ⟨?_, ?_⟩
  · rw [Rat.num_intCast]; exact Nat.lt_of_le_of_lt (u64_len h) (by decide)
  · rw [Rat.den_intCast, limbs_one]; decide
end Go.Proofs.YtejigedigmagdaaGreat

/-
  What an argument of a law holds, as a value of a plain type: whatever can be read of it, it stands for. Conditions: the type's shape is as its code says (a closed fact).
-/
set_option linter.unusedSectionVars false
namespace Go.Vw
open Go.RowKit Go.ChangeShapes Go.WideShapes

mutual
inductive Ty where
  | int (k : IntKind)
  | bool
  | str
  | struct (fs : Tys)
  | slice (e : Ty)
inductive Tys where
  | nil
  | cons (t : Ty) (ts : Tys)
end
mutual
def Ty.Val : Ty → Type
  | .int _ => Int
  | .bool => Bool
  | .str => List UInt8
  | .struct fs => fs.Val
  | .slice e => List e.Val
def Tys.Val : Tys → Type
  | .nil => Unit
  | .cons t ts => t.Val × ts.Val
end
mutual
def Ty.zero : (t : Ty) → t.Val
  | .int _ => (0 : Int)
  | .bool => false
  | .str => ([] : List UInt8)
  | .struct fs => fs.zero
  | .slice e => ([] : List e.Val)
def Tys.zero : (ts : Tys) → ts.Val
  | .nil => ()
  | .cons t ts => (t.zero, ts.zero)
end
mutual
def Ty.width : Ty → Nat
  | .int _ => 1
  | .bool => 1
  | .str => 1
  | .struct fs => fs.width
  | .slice _ => 1
def Tys.width : Tys → Nat
  | .nil => 0
  | .cons t ts => t.width + ts.width
end
mutual
def Ty.cells : (t : Ty) → t.Val → List D
  | .int k, (n : Int) => [.int k n]
  | .bool, (b : Bool) => [.bool b]
  | .str, (s : List UInt8) => [.str s]
  | .struct fs, v => fs.cells v
  | .slice e, (l : List e.Val) => [.sl e.width e.cells e.zero l]
def Tys.cells : (ts : Tys) → ts.Val → List D
  | .nil, _ => []
  | .cons t ts, v => t.cells v.1 ++ ts.cells v.2
end
mutual
def Ty.wf : (t : Ty) → t.Val → Prop
  | .int k, (n : Int) => (Lit.int k n).wf = true
  | .bool, _ => True
  | .str, (s : List UInt8) => s.length ≤ maxLen
  | .struct fs, v => fs.wf v
  | .slice e, (l : List e.Val) => l.length ≤ maxLen ∧ ∀ a ∈ l, e.wf a
def Tys.wf : (ts : Tys) → ts.Val → Prop
  | .nil, _ => True
  | .cons t ts, v => t.wf v.1 ∧ ts.wf v.2
end
mutual
def Ty.ok (P : Program) : Ty → TypeId → Bool
  | .int k, t => match P.underlying t with | some (.int k') => decide (k' = k) | _ => false
  | .bool, t => match P.underlying t with | some .bool => true | _ => false
  | .str, t => match P.underlying t with | some .string => true | _ => false
  | .struct fs, t => match P.underlying t with | some (.struct fields) => Nat.beq (P.cellsOf t) fs.width && Tys.ok P fs fields.toList 0 | _ => false
  | .slice e, t => match P.underlying t with | some (.slice te) => Nat.beq (P.cellsOf te) e.width && Nat.blt 0 e.width && Ty.ok P e te | _ => false
def Tys.ok (P : Program) : Tys → List Field → Nat → Bool
  | .nil, fs, _ => match fs with | [] => true | _ :: _ => false
  | .cons t ts, fs, off => match fs with
    | f :: fs => Nat.beq f.offset off && Nat.beq (P.cellsOf f.type) t.width && Ty.ok P t f.type && Tys.ok P ts fs (off + t.width)
    | [] => false
end
mutual
theorem Ty.cells_len : ∀ (t : Ty) (v : t.Val), (t.cells v).length = t.width
  | .int k, v => rfl
  | .bool, v => rfl
  | .str, v => rfl
  | .struct fs, v => by simp only [Ty.cells, Ty.width]; exact Tys.cells_len fs v
  | .slice e, v => rfl
theorem Tys.cells_len : ∀ (ts : Tys) (v : ts.Val), (ts.cells v).length = ts.width
  | .nil, v => rfl
  | .cons t ts, v => by simp only [Tys.cells, Tys.width, List.length_append]; rw [Ty.cells_len t v.1, Tys.cells_len ts v.2]
end

def allF (w : World) : Nat → Prop := fun b => b < w.heap.size
section
variable {H : Type} {enc : TypeId × Value → H} {P : Program} {w : World} {held : Bool}

theorem dra_one {F : Nat → Prop} {g : Nat → Option Value} {off : Nat} {x : D} {v : Value} (h0 : g off = some v) (h1 : v.oneCell' = true) (h : DR F w x v) : DRA F w g off [x] := by
  simp only [DRA]; exact ⟨⟨v, h0, h1, h⟩, trivial⟩
theorem dra_app {F : Nat → Prop} {g : Nat → Option Value} {xs ys : List D} {off : Nat} (h : DRA F w g off xs) (k : DRA F w g (off + xs.length) ys) : DRA F w g off (xs ++ ys) := by
  rw [DRA_iff] at h k ⊢
  intro i c hi
  by_cases hl : i < xs.length
  · rw [List.getElem?_append_left hl] at hi; exact h i c hi
  · rw [List.getElem?_append_right (by omega)] at hi
    obtain ⟨v, h1, h2⟩ := k _ c hi
    exact ⟨v, by rw [← h1]; congr 1; omega, h2⟩
theorem row_of_cells {a : Addr} {n : Nat} {cs : List Value} (h : w.cells? 0 a n = some cs) (hn : 0 < n) : ∃ b o arr ty fz, a = ⟨b, o, none⟩ ∧ w.heap[b]? = some (.cells arr ty fz) := by
  obtain ⟨_, hl, hc⟩ := World.cells?_some h
  have h0 := hc 0 hn
  rw [List.getElem?_eq_getElem (by omega)] at h0
  obtain ⟨b, o, sp⟩ := a
  unfold World.cell? at h0
  split at h0
  · rename_i c ty fz hh
    split at h0
    · cases h0
    · rename_i hs
      cases sp with
      | none => exact ⟨b, o, c, ty, fz, rfl, hh⟩
      | some s => exact absurd rfl hs
  · cases h0

mutual
theorem Ty.reads : ∀ (ty : Ty) (fuel : Nat) (t : TypeId) (cs : List Value) (x : DataW H × List MemPlace), ty.ok P t = true → DataW.trod enc P w 0 (fun _ => true) held fuel t cs = some x → ∃ v : ty.Val, ty.wf v ∧ cs.length = ty.width ∧ DRA (allF w) w (fun i => cs[i]?) 0 (ty.cells v)
  | .int k, fuel, t, cs, x, hok, h => by
    simp only [Ty.ok] at hok
    split at hok
    · rename_i k' hu
      have hk := of_decide_eq_true hok
      subst hk
      obtain ⟨n, rfl, _, hw⟩ := DataW.trod_int hu h
      exact ⟨(n : Int), hw, rfl, dra_one rfl rfl (by simp only [DR])⟩
    · cases hok
  | .bool, fuel, t, cs, x, hok, h => by
    simp only [Ty.ok] at hok
    split at hok
    · rename_i hu
      obtain ⟨b, rfl, _⟩ := DataW.trod_bool hu h
      exact ⟨(b : Bool), trivial, rfl, dra_one rfl rfl (by simp only [DR])⟩
    · cases hok
  | .str, fuel, t, cs, x, hok, h => by
    simp only [Ty.ok] at hok
    split at hok
    · rename_i hu
      obtain ⟨s, rfl, _, hs⟩ := DataW.trod_string hu h
      refine ⟨(s.data.toList : List UInt8), ?_, rfl, dra_one rfl rfl (by simp only [DR])⟩
      simp only [Ty.wf]
      rw [Array.length_toList]; exact hs
    · cases hok
  | .struct fs, fuel, t, cs, x, hok, h => by
    simp only [Ty.ok] at hok
    split at hok
    · rename_i fields hu
      simp only [Bool.and_eq_true] at hok
      obtain ⟨hw, hf⟩ := hok
      have hw := Nat.eq_of_beq_eq_true hw
      obtain ⟨xs, n, rfl, _, hl, hxl, hx⟩ := DataW.trod_struct hu h
      have hall : ∀ (i : Nat) (f : Field), fields.toList[i]? = some f → ∃ y, DataW.trod enc P w 0 (fun _ => true) held n f.type ((cs.drop f.offset).take (P.cellsOf f.type)) = some y := fun i f hi => by
        rw [Array.getElem?_toList] at hi
        have hlt := (Array.getElem?_eq_some_iff.1 hi).1
        have := hx i f hi
        rw [List.getElem?_eq_getElem (by omega)] at this
        exact ⟨_, this⟩
      obtain ⟨v, h1, h2⟩ := Tys.reads fs n fields.toList 0 cs hf hall
      exact ⟨v, h1, by rw [hl, hw]; rfl, h2⟩
    · cases hok
  | .slice e, fuel, t, cs, x, hok, h => by
    simp only [Ty.ok] at hok
    split at hok
    · rename_i te hu
      simp only [Bool.and_eq_true, Nat.blt_eq] at hok
      obtain ⟨⟨hw, hw0⟩, he⟩ := hok
      have hw := Nat.eq_of_beq_eq_true hw
      rcases Go.Deep.open_slice hu h with ⟨rfl, _⟩ | ⟨a, len, cap, m, n, Dx, Pl, rfl, hb, hlc, hcm, hm, _, hi⟩
      · exact ⟨([] : List e.Val), ⟨by simp, fun a h => by simp at h⟩, rfl, dra_one rfl rfl (by simp only [DR]; exact .inl ⟨⟨_, _, rfl⟩, trivial⟩)⟩
      · have hlm : len ≤ m := by rw [hm]; split <;> omega
        have each : ∀ i, i < len → ∃ v : e.Val, e.wf v ∧ ∃ cs', w.cells? 0 (a.add (i * P.cellsOf te)) (P.cellsOf te) = some cs' ∧ DRA (allF w) w (fun j => cs'[j]?) 0 (e.cells v) := fun i hlt => by
          obtain ⟨cs', h1, h2⟩ := hi i (by omega)
          obtain ⟨v, q1, q2, q3⟩ := Ty.reads e n te cs' _ he h2
          exact ⟨v, q1, cs', h1, q3⟩
        have : ∃ V : Nat → e.Val, ∀ i, i < len → (e.wf (V i) ∧ ∃ cs', w.cells? 0 (a.add (i * P.cellsOf te)) (P.cellsOf te) = some cs' ∧ DRA (allF w) w (fun j => cs'[j]?) 0 (e.cells (V i))) :=
          ⟨fun i => if h : i < len then (each i h).choose else e.zero, fun i h => by
            simp only [h, dif_pos]
            exact (each i h).choose_spec⟩
        obtain ⟨V, hV⟩ := this
        refine ⟨((List.range len).map V : List e.Val), ⟨by simp; omega, fun v hv => ?_⟩, rfl, dra_one rfl rfl ?_⟩
        · simp only [List.mem_map, List.mem_range] at hv
          obtain ⟨i, hlt, rfl⟩ := hv
          exact (hV i hlt).1
        simp only [DR]
        simp only [if_true] at hm
        by_cases hc0 : cap = 0
        · have hl0 : len = 0 := by omega
          subst hl0 hc0
          exact .inl ⟨⟨_, _, rfl⟩, by simp⟩
        · obtain ⟨cs0, h0, _⟩ := hi 0 (by omega)
          rw [Nat.zero_mul, show a.add 0 = a by simp [Addr.add]] at h0
          obtain ⟨b, o, arr, ty, fz, ha, hh⟩ := row_of_cells h0 (by omega)
          have ha' : a = ⟨b, a.off, none⟩ := by subst ha; rfl
          refine .inr ⟨b, a.off, cap, arr, ty, fz, by rw [ha']; simp, by simpa using hlc, lt_of_heap hh, hh, fun i v hv => ?_⟩
          have hlt : i < len := by have := (List.getElem?_eq_some_iff.1 hv).1; simpa using this
          simp [hlt] at hv
          subst hv
          obtain ⟨_, cs', h1, h2⟩ := hV i hlt
          refine ⟨Ty.cells_len _ _, ?_⟩
          obtain ⟨_, hcl, hcc⟩ := World.cells?_some h1
          rw [DRA_iff] at h2 ⊢
          intro j c hj
          obtain ⟨u, p1, p2⟩ := h2 j c hj
          have hjl := (List.getElem?_eq_some_iff.1 hj).1
          rw [Ty.cells_len] at hjl
          refine ⟨u, ?_, p2⟩
          have h3 := hcc j (by omega)
          rw [Nat.zero_add] at p1
          rw [p1, ha', add_plain, add_plain] at h3
          simp only [World.cell?, hh] at h3
          rw [← hw]
          simpa using h3
    · cases hok
theorem Tys.reads : ∀ (ts : Tys) (n : Nat) (fields : List Field) (off : Nat) (cs : List Value), ts.ok P fields off = true → (∀ (i : Nat) (f : Field), fields[i]? = some f → ∃ y, DataW.trod enc P w 0 (fun _ => true) held n f.type ((cs.drop f.offset).take (P.cellsOf f.type)) = some y) → ∃ v : ts.Val, ts.wf v ∧ DRA (allF w) w (fun i => cs[i]?) off (ts.cells v)
  | .nil, n, fields, off, cs, hok, h => ⟨(), trivial, by simp only [Tys.cells, DRA]⟩
  | .cons t ts, n, fields, off, cs, hok, h => by
    simp only [Tys.ok] at hok
    split at hok
    · rename_i f fs
      simp only [Bool.and_eq_true] at hok
      obtain ⟨⟨⟨h1, h2⟩, h3⟩, h4⟩ := hok
      have h1 := Nat.eq_of_beq_eq_true h1
      have h2 := Nat.eq_of_beq_eq_true h2
      obtain ⟨y, hy⟩ := h 0 f rfl
      obtain ⟨v, q1, q2, q3⟩ := Ty.reads t n f.type _ y h3 hy
      obtain ⟨v2, r1, r2⟩ := Tys.reads ts n fs (off + t.width) cs h4 (fun i g hg => h (i + 1) g (by simpa using hg))
      refine ⟨(v, v2), ⟨q1, r1⟩, ?_⟩
      simp only [Tys.cells]
      refine dra_app ?_ (by rw [Ty.cells_len]; exact r2)
      rw [DRA_iff] at q3 ⊢
      intro i c hi
      obtain ⟨u, p1, p2⟩ := q3 i c hi
      have hlt := (List.getElem?_eq_some_iff.1 hi).1
      rw [Ty.cells_len] at hlt
      refine ⟨u, ?_, p2⟩
      rw [Nat.zero_add, List.getElem?_take, if_pos (by omega), List.getElem?_drop, h1] at p1
      exact p1
    · cases hok
end

def Ty.top : (t : Ty) → t.Val → D
  | .int k, (n : Int) => .int k n
  | .bool, (b : Bool) => .bool b
  | .str, (s : List UInt8) => .str s
  | .struct fs, v => .agg (fs.cells v)
  | .slice e, (l : List e.Val) => .sl e.width e.cells e.zero l
theorem Ty.topReads {r : Reach} {b0 : Nat} : ∀ (ty : Ty) (t : TypeId) (v : Value) (d : DataW H) (ps : List MemPlace), ty.ok P t = true → Value.okWide P w r b0 t v → DataW.Trod enc P w 0 (fun _ => true) held t v d ps → ∃ x : ty.Val, ty.wf x ∧ DR (allF w) w (ty.top x) v := fun ty t v d ps hok hv h => by
  obtain ⟨fuel, h⟩ := h
  obtain ⟨x, h1, h2, h3⟩ := Ty.reads ty fuel t _ _ hok h
  refine ⟨x, h1, ?_⟩
  have one : ∀ (y : D), v.cells.toList = [v] → DRA (allF w) w (fun i => v.cells.toList[i]?) 0 [y] → DR (allF w) w y v := fun y e hd => by
    rw [e] at hd
    simp only [DRA] at hd
    obtain ⟨⟨u, hu, _, hd⟩, _⟩ := hd
    simp at hu; subst hu; exact hd
  cases ty with
  | int k =>
    simp only [Ty.ok] at hok
    split at hok
    · rename_i k' hu
      refine one _ ?_ h3
      cases v <;> first | rfl | (simp [Value.okWide, hu, Cell.okWide, Cell.ok] at hv)
    · cases hok
  | bool =>
    simp only [Ty.ok] at hok
    split at hok
    · rename_i hu
      refine one _ ?_ h3
      cases v <;> first | rfl | (simp [Value.okWide, hu, Cell.okWide, Cell.ok] at hv)
    · cases hok
  | str =>
    simp only [Ty.ok] at hok
    split at hok
    · rename_i hu
      refine one _ ?_ h3
      cases v <;> first | rfl | (simp [Value.okWide, hu, Cell.okWide, Cell.ok] at hv)
    · cases hok
  | struct fs =>
    simp only [Ty.ok] at hok
    split at hok
    · rename_i fields hu
      simp only [Value.okWide, hu] at hv
      obtain ⟨arr, rfl, hs, _⟩ := hv
      simp only [Ty.top, DR]
      refine ⟨arr, rfl, ?_, ?_⟩
      · have hc := Tys.cells_len fs x
        have h2' : arr.size = fs.width := by simpa [Value.cells, Ty.width] using h2
        exact h2'.trans hc.symm
      · rw [DRA_iff] at h3 ⊢
        intro i c hi
        obtain ⟨u, p1, p2⟩ := h3 i c hi
        exact ⟨u, by simpa [Value.cells] using p1, p2⟩
    · cases hok
  | slice e =>
    simp only [Ty.ok] at hok
    split at hok
    · rename_i te hu
      refine one _ ?_ h3
      cases v <;> first | rfl | (simp [Value.okWide, hu, Cell.okWide, Cell.ok] at hv)
    · cases hok

def Tys.tops : (ts : Tys) → ts.Val → List D
  | .nil, _ => []
  | .cons t ts, v => t.top v.1 :: ts.tops v.2
def Tys.oks (P : Program) : Tys → List TypeId → Bool
  | .nil, l => match l with | [] => true | _ :: _ => false
  | .cons t ts, l => match l with | a :: r => Ty.ok P t a && Tys.oks P ts r | [] => false
theorem Tys.tops_len : ∀ (ts : Tys) (l : List TypeId) (v : ts.Val), ts.oks P l = true → (ts.tops v).length = l.length
  | .nil, [], _, _ => rfl
  | .nil, _ :: _, _, h => by simp [Tys.oks] at h
  | .cons t ts, [], _, h => by simp [Tys.oks] at h
  | .cons t ts, a :: r, v, h => by
    simp only [Tys.oks, Bool.and_eq_true] at h
    simp only [Tys.tops, List.length_cons, Tys.tops_len ts r v.2 h.2]
theorem Tys.topsRead {r : Reach} {b0 : Nat} : ∀ (tys : Tys) (ts : List TypeId) (vs : List Value) (ds : List (DataW H)) (ps : List MemPlace), tys.oks P ts = true → (∀ (j : Nat) t v, ts[j]? = some t → vs[j]? = some v → Value.okWide P w r b0 t v) → DataW.TrodAll enc P w 0 (fun _ => true) held ts vs ds ps → ∃ x : tys.Val, tys.wf x ∧ vs.length = ts.length ∧ ∀ g off, (∀ i, g (off + i) = vs[i]?) → DRT (allF w) w g off (tys.tops x)
  | .nil, [], vs, ds, ps, _, _, h => by
    cases vs <;> cases ds <;> first | (exact absurd h id) | exact ⟨(), trivial, rfl, fun g off _ => by simp only [Tys.tops, DRT]⟩
  | .nil, _ :: _, _, _, _, hok, _, _ => by simp [Tys.oks] at hok
  | .cons t ts, [], _, _, _, hok, _, _ => by simp [Tys.oks] at hok
  | .cons t ts, a :: r', vs, ds, ps, hok, hv, h => by
    simp only [Tys.oks, Bool.and_eq_true] at hok
    cases vs with
    | nil => cases ds <;> exact absurd h id
    | cons v vs =>
      cases ds with
      | nil => exact absurd h id
      | cons d ds =>
        obtain ⟨p, q, h1, h2, _⟩ := h
        obtain ⟨x, g1, g2⟩ := Ty.topReads t a v d p hok.1 (hv 0 a v rfl rfl) h1
        obtain ⟨y, k1, k2, k3⟩ := Tys.topsRead ts r' vs ds q hok.2 (fun j t' v' e1 e2 => hv (j + 1) t' v' (by simpa using e1) (by simpa using e2)) h2
        refine ⟨(x, y), ⟨g1, k1⟩, by simp [k2], fun g off hg => ?_⟩
        simp only [Tys.tops, DRT]
        refine ⟨⟨v, by simpa using hg 0, g2⟩, k3 g (off + 1) (fun i => ?_)⟩
        rw [Nat.add_assoc, Nat.add_comm 1 i, hg (i + 1)]; simp
end
end Go.Vw

/-
  From a contract on values of plain types to what a law's row asks of a call. Conditions: closed facts of the program's types.
-/
namespace Go.Vw
open Go.ChangeShapes Go.WideShapes Go.ChangeAt Go.RowKit

theorem post_below {H : Type} {enc : TypeId × Value → H} {P : Program} {f : Func} {s : ChangeSpec} {apart fresh handsOn again : Bool} {W W' : World} {args : Array Value} {v : Value} {ds gs : List (DataW H)} {before pa pv : List MemPlace}
    (hW : DataW.Whole enc P f.params.toList s.vars apart W args.toList ds gs before)
    (hres : ∀ (b : Nat) (sp : Nat → Bool) (hd : Bool), DataW.TrodAll enc P W' b sp hd f.resultTypes.toList (v.resultList f.resultTypes.size) (s.fn H (ds ++ gs)).results [])
    (hargs : ∀ sp : Nat → Bool, (∀ p ∈ before, sp p.block = true) → DataW.TrodAll enc P W' 0 sp true f.params.toList args.toList (s.fn H (ds ++ gs)).args pa)
    (hvars : ∀ sp : Nat → Bool, (∀ p ∈ before, sp p.block = true) → DataW.TrodVars enc P W' sp s.vars (s.fn H (ds ++ gs)).vars pv)
    (hps : before = pa ++ pv) (hb : Below W.heap.size W W')
    (hok : ∀ (j : Nat) (t : TypeId) (r : Value), f.resultTypes[j]? = some t → (v.resultList f.resultTypes.size)[j]? = some r → Value.okWide P W' .any 0 t r) :
    s.post enc P f apart fresh handsOn again W args v W' := by
  have hlt := hW.lt
  have hin : ∀ p ∈ before, (fun b => decide (b < W.heap.size)) p.block = true := fun p hp => decide_eq_true (hlt p hp)
  obtain ⟨_, _, _, _, _, hz, hn⟩ := id hW
  refine ⟨ds, gs, before, [], pa, pv, hW, hres _ _ _, hargs _ hin, hvars _ hin, hb.frame _, fun _ => ⟨hok, _, _, ([] ++ pa) ++ pv, ⟨[] ++ pa, pv, trodAll_append (hargs _ fun _ _ => rfl) (hres _ _ _), hvars _ fun _ _ => rfl, rfl, fun b off hp => ?_, fun ha => ?_⟩, fun p hp _ => ?_⟩⟩
  · have hp' : MemPlace.cell b off ∈ before := by rw [hps]; simpa using hp
    rw [hb.frozen (hlt _ hp')]
    exact hz b off hp'
  · have := hn ha
    rw [hps] at this
    simpa using this
  · rw [hps]; simpa using hp

theorem trodAll_stays {H : Type} {enc : TypeId × Value → H} {P : Program} {W W' : World} {sp' : Nat → Bool} (hl : laidOutB P = true) : ∀ {ts : List TypeId} {vs : List Value} {ds : List (DataW H)} {ps : List MemPlace}, (ts.all fun t => P.readableRec t && decide (t < P.types.size)) = true → DataW.TrodAll enc P W 0 (fun _ => true) true ts vs ds ps → (∀ p ∈ ps, W.sameAt W' p) → (∀ p ∈ ps, sp' p.block = true) → DataW.TrodAll enc P W' 0 sp' true ts vs ds ps
  | [], [], [], _, _, h, _, _ => h
  | [], _ :: _, _, _, _, h, _, _ => absurd h id
  | [], [], _ :: _, _, _, h, _, _ => absurd h id
  | _ :: _, [], _, _, _, h, _, _ => absurd h id
  | _ :: _, _ :: _, [], _, _, h, _, _ => absurd h id
  | t :: ts, v :: vs, d :: ds, _, ht, ⟨p, q, h1, h2, e⟩, hsame, hs => by
    subst e
    simp only [List.all_cons, Bool.and_eq_true, decide_eq_true_eq] at ht
    exact ⟨p, q, WideElems.Trod_stays hl ht.1.1 ht.1.2 h1 (fun x hx => hsame x (by simp [hx])) (fun x hx => hs x (by simp [hx])), trodAll_stays hl ht.2 h2 (fun x hx => hsame x (by simp [hx])) (fun x hx => hs x (by simp [hx])), rfl⟩

theorem law_contract {P : Program} {f : FuncId} {fn : Func} {s : ChangeSpec} {rt : TypeId} (tys : Tys) (hl : laidOutB P = true) (hok : tys.oks P fn.params.toList = true) (hp : (fn.params.toList.all fun t => P.readableRec t && decide (t < P.types.size)) = true) (hv : s.vars = []) (hr : fn.resultTypes = #[rt]) (hrt : P.underlying rt = some .bool) (hc : ∀ x : tys.Val, tys.wf x → Ret P f (tys.tops x) (· = .bool true))
    (H : Type) (enc : TypeId × Value → H) (hs : ∀ ds : List (DataW H), ds.length = fn.params.toList.length → (s.fn H ds).results = [.lit (.bool true)] ∧ (s.fn H ds).args = ds ∧ (s.fn H ds).vars = [])
    (W : World) (base : Nat) (args : Array Value) (ds gs : List (DataW H)) (before : List MemPlace)
    (hval : ∀ (j : Nat) t v, fn.params[j]? = some t → args[j]? = some v → Value.okWide P W .any base t v)
    (hW : DataW.Whole enc P fn.params.toList s.vars false W args.toList ds gs before) :
    Calls P f args W fun e W' => ∃ v, e = .returned v ∧ s.post enc P fn false true false false W args v W' := by
  have hW' := hW
  have hlt := hW.lt
  obtain ⟨p, q, hA, hV, rfl, hfz, hnd⟩ := hW
  rw [hv] at hV
  obtain ⟨rfl, rfl⟩ := trodVars_none hV
  obtain ⟨x, hx, hlen, hd⟩ := Tys.topsRead tys fn.params.toList args.toList ds p hok (fun j t v h1 h2 => hval j t v (by simpa using h1) (by simpa using h2)) hA
  have hdl : ds.length = fn.params.toList.length := by
    have aux : ∀ (ts : List TypeId) (vs : List Value) (ds : List (DataW H)) (ps : List MemPlace), DataW.TrodAll enc P W 0 (fun _ => true) true ts vs ds ps → ds.length = ts.length := by
      intro ts
      induction ts with
      | nil => intro vs ds ps h; cases vs <;> cases ds <;> first | (exact absurd h id) | rfl
      | cons t ts ih =>
        intro vs ds ps h
        cases vs with
        | nil => cases ds <;> exact absurd h id
        | cons v vs => cases ds with
          | nil => exact absurd h id
          | cons d ds => obtain ⟨_, q, _, h2, _⟩ := h; simp [ih _ _ _ h2]
    exact aux _ _ _ _ hA
  obtain ⟨s1, s2, s3⟩ := hs ds hdl
  have ht := Tys.tops_len tys fn.params.toList x hok
  refine ((hc x hx).run (allF W) W args (fun b h => h) (by rw [ht, ← hlen]; simp) (hd _ 0 (fun i => by simp))).mono fun e W' ⟨v, r, F', he, hr', hb, _, _, hv'⟩ => ?_
  subst he hr'
  simp only [Vw.DR] at hv'
  subst hv'
  refine ⟨_, rfl, post_below (pa := p) (pv := []) hW' ?_ ?_ ?_ rfl hb ?_⟩
  · intro b sp hd'
    simp only [List.append_nil, s1, hr]
    exact trodAll_cons_mk (shut_bool hrt _) trodAll_mk0
  · intro sp hsp
    simp only [List.append_nil, s2]
    exact trodAll_stays hl hp hA (fun y hy => hb.same (hlt y (by simp [hy]))) (fun y hy => hsp y (by simp [hy]))
  · intro sp hsp
    simp only [List.append_nil, s3, hv]
    rfl
  · exact ok_one hr rfl (okWide_bool_mk hrt _)
end Go.Vw

/-
  A law's rational numbers and intervals as they come in. Conditions: as each says.
-/
namespace Go.Vw
abbrev tU : Ty := .slice (.int .u32)
abbrev tInt : Ty := .struct (.cons .bool (.cons tU .nil))
abbrev tRat : Ty := .struct (.cons tInt (.cons tU .nil))
def toN (l : List Int) : List Nat := l.map Int.toNat
theorem toN_len (l : List Int) : (toN l).length = l.length := List.length_map ..
theorem u32_wf {z : Int} (h : (Lit.int .u32 z).wf = true) : 0 ≤ z ∧ z < 4294967296 := by
  simp [Lit.wf, IntKind.min, IntKind.max, IntKind.signed, IntKind.bits] at h
  omega
theorem leU {l : List Int} (h : ∀ z ∈ l, (Lit.int .u32 z).wf = true) : LeD (.sl 1 (Ty.int .u32).cells (0 : Int) l) (u32s (toN l)) := by
  refine LeD.sl (toN_len l).symm fun i (a : Int) b (ha : (l[i]? : Option Int) = some a) hb => ⟨rfl, ?_⟩
  have hm : a ∈ l := List.mem_of_getElem? ha
  have hw := u32_wf (h a hm)
  unfold toN at hb
  rw [List.getElem?_map, ha] at hb
  simp only [Option.map_some, Option.some.injEq] at hb
  subst hb
  exact leN hw.1
theorem wf_toN {l : List Int} (h : ∀ z ∈ l, (Lit.int .u32 z).wf = true) : WF (toN l) := by
  intro x hx
  unfold toN at hx
  obtain ⟨z, hz, rfl⟩ := List.mem_map.1 hx
  have := u32_wf (h z hz)
  show z.toNat < 4294967296
  omega
abbrev vRat : Type := (Bool × List Int × Unit) × List Int × Unit
def toR (x : vRat) : R3 := (x.1.1, toN x.1.2.1, toN x.2.1)
def wfRat (x : vRat) : Prop := (x.1.2.1.length ≤ maxLen ∧ ∀ z ∈ x.1.2.1, (Lit.int .u32 z).wf = true) ∧ (x.2.1.length ≤ maxLen ∧ ∀ z ∈ x.2.1, (Lit.int .u32 z).wf = true)
theorem wfRat_of {x : vRat} (h : Ty.wf tRat x) : wfRat x := ⟨h.1.2.1, h.2.1⟩
theorem leRat {x : vRat} (h : wfRat x) : LeL (Ty.cells tRat x) (rC (toR x)) :=
  LeL.cons (LeD.refl _) (LeL.cons (leU h.1.2) (LeL.cons (leU h.2.2) LeL.nil))
theorem leRatD {x : vRat} (h : wfRat x) : LeD (Ty.top tRat x) (rD (toR x)) := LeD.agg (leRat h)
structure RawR (r : R3) : Prop where
  wm : WF r.2.1
  wd : WF r.2.2
  lm : r.2.1.length ≤ 9223372036854775807
  ld : r.2.2.length ≤ 9223372036854775807
def lightR (r : R3) : Bool := decide (r.2.1.length ≤ 8) && decide (r.2.2.length ≤ 8)
theorem RawR.light {r : R3} (h : RawR r) (hl : lightR r = true) : RatOk r 9 := by
  unfold lightR at hl
  rw [Bool.and_eq_true, decide_eq_true_eq, decide_eq_true_eq] at hl
  exact ⟨h.wm, h.wd, Nat.lt_succ_of_le hl.1, Nat.lt_succ_of_le hl.2⟩
theorem rawR {x : vRat} (h : wfRat x) : RawR (toR x) :=
  ⟨wf_toN h.1.2, wf_toN h.2.2, by show (toN _).length ≤ _; rw [toN_len]; exact h.1.1, by show (toN _).length ≤ _; rw [toN_len]; exact h.2.1⟩
def toRs (l : List vRat) : List R3 := l.map toR
theorem leRatsD {l : List vRat} (h : Ty.wf (.slice tRat) l) : LeD (Ty.top (.slice tRat) l) (rsD (toRs l)) := by
  refine LeD.sl (List.length_map ..).symm fun i (a : vRat) b (ha : (l[i]? : Option vRat) = some a) hb => ⟨rfl, ?_⟩
  have hm : a ∈ l := List.mem_of_getElem? ha
  unfold toRs at hb
  rw [List.getElem?_map, ha] at hb
  have e : toR a = b := Option.some.inj hb
  subst e
  exact leRat (wfRat_of (h.2 a hm))
theorem rawRs {l : List vRat} (h : Ty.wf (.slice tRat) l) : ∀ r ∈ toRs l, RawR r := by
  intro r hr
  unfold toRs at hr
  obtain ⟨a, ha, rfl⟩ := List.mem_map.1 hr
  exact rawR (wfRat_of (h.2 a ha))
theorem lenRs {l : List vRat} (h : Ty.wf (.slice tRat) l) : (toRs l).length ≤ 9223372036854775807 := by
  unfold toRs
  rw [List.length_map]; exact h.1
end Go.Vw

set_option maxHeartbeats 4000000
namespace Go.Proofs.YtejigedigmagdaaGreat
open Go.Vw
attribute [local irreducible] awp awpL awpR Int.decLt Int.decLe Int.instDecidableEq

end Go.Proofs.YtejigedigmagdaaGreat

/-
  The cell of a number between two others. Conditions: as each says.
-/
namespace Go.Vw
end Go.Vw

set_option maxHeartbeats 8000000
namespace Go.Proofs.YtejigedigmagdaaGreat
open Go.Vw
attribute [local irreducible] awp awpL awpR

end Go.Proofs.YtejigedigmagdaaGreat

set_option maxHeartbeats 8000000
namespace Go.Proofs.YtejigedigmagdaaGreat
open Go.Vw
attribute [local irreducible] awp awpL awpR Int.decLt Int.decLe

theorem sl_small (d : Array Rat) (lim : Nat) (hd : AllOk d) (hn : d.size ≤ 12) (hlim : lim < 1000) : RetB Tryz.prog 197 [ow d, .d (.int .i64 0), .d (.int .i64 d.size), .d (.int .i64 lim), cmpV] (lookB [(1000, bq d)]) (.tup []) (lookB [(1000, bq (srtIn d 0 d.size))]) := by
  have hl : d.toList.length = d.size := Array.length_toList
  have hr := srtIn_size (Nat.zero_le d.size) (Nat.le_refl d.size)
  have ci := sl_insertion d 0 d.size hd (by omega) (Nat.zero_le _) (Nat.le_refl _)
  obtain ⟨R, hR⟩ : ∃ R, srtIn d 0 d.size = R := ⟨_, rfl⟩
  rw [hR] at hr ci ⊢
  refine retB_of_awp tab [1000] Tryz.func197 rfl rfl rfl (Nat.le_of_ble_eq_true rfl) rfl ⟨by show d.toList.length ≤ R.toList.length; simp [hr], trivial⟩ (fun w0 F0 A io0 => ?_)
  repeat' (first | refine wG ?_ | refine rg 17 13 ?_ | refine wS ?_ ?_ <;> intro _ | refine wB ?_ ?_)
  refine awp_loop1 (fun (_ : Unit) => ([(0, ow d), (1, .d (.int .i64 0)), (2, .d (.int .i64 d.size)), (3, .d (.int .i64 lim)), (4, cmpV), (10, _), (11, _)], [(1000, bq d)])) (fun _ => True) (fun _ => 0) () trivial ⟨rfl, rfl, rfl, rfl, rfl, rfl, rfl, rfl⟩ ⟨rfl, trivial⟩ (fun _ _ => ?_)
  clear hR hd
  repeat' (first | refine wG ?_ | refine wD [] ci ?_ | refine rg 17 13 ?_ | refine wS ?_ ?_ <;> intro _ | refine wB ?_ ?_)
  all_goals first | exact leVT | exact ⟨rfl, trivial⟩
theorem slices_SortFunc (l : List Rat) (hn : l.length ≤ 12) (hl : ∀ q ∈ l, okQ 1000 q) : RetB Tryz.prog 172 [.own 1000 0 l.length 27 3, .fn 109 []] (lookB [(1000, .data 27 3 qC 0 l)]) (.tup []) (lookB [(1000, .data 27 3 qC 0 (srt l))]) := by
  have h : RetB Tryz.prog 197 [.own 1000 0 l.length 27 3, .d (.int .i64 0), .d (.int .i64 l.length), .d (.int .i64 (len8 l.length)), .fn 109 []] (lookB [(1000, .data 27 3 qC 0 l)]) (.tup []) (lookB [(1000, .data 27 3 qC 0 (srt l))]) := by
    have h0 := sl_small l.toArray (len8 l.length) hl (by simp; omega) (by have := (len8_le l.length (by omega)).1; omega)
    have e := srtIn_all l.toArray
    rw [show l.toArray.size = l.length by simp, show l.toArray.toList = l by simp] at e
    rw [← e]
    exact h0
  have hs := srt_len l
  have hb := bits_Len l.length (by omega)
  generalize len8 l.length = n at *
  refine retB_of_awp tab [1000] Tryz.func172 rfl rfl rfl (Nat.le_of_ble_eq_true rfl) rfl ⟨by show l.length ≤ (srt l).length; rw [srt_len]; exact Nat.le_refl _, trivial⟩ (fun w0 F0 A io0 => ?_)
  repeat' (first | refine wG ?_ | refine wD [] h ?_ | refine wC hb ?_ | refine wS ?_ ?_ <;> intro _ | refine wB ?_ ?_)
  all_goals first | exact leVT | exact ⟨rfl, trivial⟩
end Go.Proofs.YtejigedigmagdaaGreat

set_option maxHeartbeats 8000000
namespace Go.Proofs.YtejigedigmagdaaGreat
open Go.Vw
attribute [local irreducible] awp awpL awpR

end Go.Proofs.YtejigedigmagdaaGreat

/-
  States whose keys bear other names. Conditions: the table of types is the program's.
-/
namespace Go.Vw
open Go.RowKit
def St.ren (σ τ : Nat → Nat) (s : St) : St := { tmps := fun t => (s.tmps t).ren σ, blk := renO σ τ s.blk, dfs := [] }
theorem SR.ren {X : Ctx} {io : Nat → Option Nat} {F : Nat → Prop} {s : St} {a : Act} {w : World} (hs : SR X io F s a w) (hd : s.dfs = []) {σ τ : Nat → Nat} (h1 : ∀ k, σ (τ k) = k) (h2 : ∀ k, τ (σ k) = k) (hK : ∀ k ∈ X.K, τ k = k) : SR X (fun k => io (τ k)) F (s.ren σ τ) a w := by
  have hne : ∀ k, (s.ren σ τ).blk k ≠ none → s.blk (τ k) ≠ none := fun k h => by
    intro e
    exact h (by simp only [St.ren, renO, e, Option.map_none])
  have hln : ∀ k, (s.ren σ τ).ln k = s.ln (τ k) := fun k => by
    cases h : s.blk (τ k) with
    | none =>
      have : (s.ren σ τ).blk k = none := by simp only [St.ren, renO, h, Option.map_none]
      unfold St.ln
      rw [this, h]
    | some b =>
      have : (s.ren σ τ).blk k = some (b.ren σ) := by simp only [St.ren, renO, h, Option.map_some]
      rw [ln_of this, ln_of h, Blk.ren_ln]
  have hkeys : (⟨fun k => ((s.ren σ τ).keys fun k => io (τ k)).io (σ k), fun k => ((s.ren σ τ).keys fun k => io (τ k)).ln (σ k)⟩ : Keys) = s.keys io := by
    show (⟨fun k => io (τ (σ k)), fun k => (s.ren σ τ).ln (σ k)⟩ : Keys) = ⟨io, s.ln⟩
    congr 1
    · funext k; rw [h2]
    · funext k; rw [hln, h2]
  refine ⟨hs.kept, fun t => ?_, hs.nt, ?_, fun k b hk => ?_, fun k k' b e1 e2 e3 e4 => ?_, hs.ff, hs.f0, fun k hk => ?_⟩
  · refine (VR.ren (io := (s.ren σ τ).keys fun k => io (τ k)) (s.tmps t) _).1 ?_
    rw [hkeys]
    exact hs.tm t
  · have := hs.df
    rw [hd] at this
    exact this
  · simp only [St.ren, renO, Option.map_eq_some_iff] at hk
    obtain ⟨b0, e0, rfl⟩ := hk
    have := hs.bl (τ k) b0 e0
    rw [← hkeys] at this
    have := BR.ren (io := (s.ren σ τ).keys fun k => io (τ k)).1 this
    rwa [h1] at this
  · have := hs.inj (τ k) (τ k') b (hne k e1) (hne k' e2) e3 e4
    have := congrArg σ this
    rwa [h1, h1] at this
  · show io (τ k) = X.io0 k
    rw [hK k hk]
    exact hs.st k hk
def renT (σ : Nat → Nat) : List (Nat × V) → List (Nat × V)
  | [] => []
  | (k, v) :: r => (k, v.ren σ) :: renT σ r
theorem lookT_ren (σ : Nat → Nat) : ∀ (l : List (Nat × V)) (t : Nat), (lookT l t).ren σ = lookT (renT σ l) t
  | [], t => rfl
  | (k, v) :: r, t => by
    simp only [lookT, renT]
    cases Nat.beq t k with
    | true => rfl
    | false => simpa using lookT_ren σ r t
theorem perm_notin : ∀ (l : List (Nat × Nat)) (k : Nat), (l.all fun p => !(Nat.beq k p.1) && !(Nat.beq k p.2)) = true → permI l k = k
  | [], k, _ => rfl
  | (a, b) :: r, k, h => by
    simp only [List.all_cons, Bool.and_eq_true, Bool.not_eq_true'] at h
    simp only [permI]
    rw [perm_notin r k (by simpa using h.2)]
    unfold swp
    rw [h.1.1, h.1.2]
    rfl
theorem awp_rekey {X : Ctx} {c : Code} {Q : Exit → St → Prop} {ts : List (Nat × V)} {bs : List (Nat × Blk)} (l : List (Nat × Nat)) {ts2 : List (Nat × V)} {bs2 : List (Nat × Blk)} (h : awp X c Q (St.of ts2 bs2)) (hK : (X.K.all fun k => l.all fun p => !(Nat.beq k p.1) && !(Nat.beq k p.2)) = true := by rfl) (e1 : renT (perm l) ts = ts2 := by rfl) (e2 : renB (perm l) bs = bs2 := by rfl) : awp X c Q (St.of ts bs) := fun io F a w hs => by
  subst e1 e2
  have := hs.ren rfl (perm_permI l) (permI_perm l) (fun k hk => perm_notin l k (by
    simp only [List.all_eq_true] at hK
    have := hK k hk
    simpa only [List.all_eq_true] using this))
  have e : (St.of ts bs).ren (perm l) (permI l) = St.of (renT (perm l) ts) (renB (perm l) bs) := by
    unfold St.ren St.of
    congr 1
    · funext t; exact lookT_ren _ _ _
    · exact lookB_ren (perm_permI l) (permI_perm l) bs
  rw [e] at this
  exact h _ F a w this
theorem awp_rename {X : Ctx} {c : Code} {Q : Exit → St → Prop} {s : St} (ts : List (Nat × V)) (bs : List (Nat × Blk)) (l : List (Nat × Nat)) (ht : AllT s ts) (hb : AllB s bs) {ts2 : List (Nat × V)} {bs2 : List (Nat × Blk)} (h : awp X c Q (St.of ts2 bs2)) (hK : (X.K.all fun k => l.all fun p => !(Nat.beq k p.1) && !(Nat.beq k p.2)) = true := by rfl) (e1 : renT (perm l) ts = ts2 := by rfl) (e2 : renB (perm l) bs = bs2 := by rfl) (hc : (coverT bs ts && coverB bs bs) = true := by rfl) : awp X c Q s :=
  awp_slots ts bs ht hb (awp_rekey l h hK e1 e2) hc
end Go.Vw

/-
  Drawn regions by the sets of operations that have been carried out; lists that are appended to beside other work. Conditions: the table of types is the program's.
-/
namespace Go.Vw
open Go.RowKit
def insL (L : Nat → Bool) (i : Nat) : Nat → Bool := fun j => bif Nat.beq j i then true else L j
theorem awp_region_gen {X : Ctx} (hm : X.P.follows .mixedOrders = true) {id : Nat} {ops : List Oper} (n : Nat) (tf : TailFacts ops.toArray n) (A : (Nat → Bool) → St) {Q : Exit → St → Prop} {s s1 : St} (h0 : A (fun _ => false) = s) (h1 : ∀ L, (∀ j, j < n → L j = true) → (∀ j, L j = true → j < n) → A L = s1)
    (step : ∀ (L : Nat → Bool) (i : Nat) (o : Oper), i < n → ops.toArray[i]? = some o → L i = false → (∀ j, L j = true → j < n) → (∀ j, j < i → ((masks ops.toArray.toList []).getD i 0).testBit j = true → L j = true) → (∀ j, L j = true → ∀ k, ((masks ops.toArray.toList []).getD j 0).testBit k = true → L k = true) → E1 X ops.toArray (A L) o (A (insL L i)))
    (htail : awpL X ops.toArray (ops.drop n) Q s1) : awp X (.region id ops.toArray true) Q s := by
  intro io F0 a0 w0 hs
  refine wp_region_any hm ?_
  have hle := tf.le
  have hsz : ops.toArray.size = ops.length := rfl
  have getn : ∀ j, j < n → ∃ o, ops.toArray[j]? = some o := fun j hj => ⟨_, Array.getElem?_eq_getElem (by omega)⟩
  have key : ∀ (u fuel : Nat) (listed : Array Bool) (io : Nat → Option Nat) (F : Nat → Prop) (a : Act) (w : World), (List.range n).countP (fun j => !listed.getD j false) ≤ u → u + (ops.toArray.size - n) ≤ fuel → listed.size = ops.toArray.size →
      (∀ j, listed.getD j false = true → j < n) → (∀ i o, ops.toArray[i]? = some o → listed.getD i false = true → ∀ e ∈ o.after, Region.binds .any e = true → listed.getD e.on false = true) →
      SR X io F (A (fun j => listed.getD j false)) a w → wpAny X.P .any ops.toArray (lift X Q) fuel listed a w := by
    intro u
    induction u with
    | zero =>
      intro fuel listed io F a w hu hfu hsize htl hcl hsr
      have hall : ∀ j, j < n → listed.getD j false = true := fun j hj => by
        have := List.countP_eq_zero.1 (Nat.le_zero.1 hu) j (by simpa using hj)
        simpa using this
      refine wpAny_tail tf (ops.toArray.size - n) n fuel listed a w (Nat.le_refl _) (by omega) (by omega) hsize (fun j => ⟨htl j, hall j⟩) ?_
      rw [h1 _ hall htl] at hsr
      exact htail _ _ _ _ hsr
    | succ u ih =>
      intro fuel listed io F a w hu hfu hsize htl hcl hsr
      by_cases hall : ∀ j, j < n → listed.getD j false = true
      · have h0 : (List.range n).countP (fun j => !listed.getD j false) = 0 := List.countP_eq_zero.2 fun j hj => by simp only [List.mem_range] at hj; simp [hall j hj]
        exact ih fuel listed io F a w (by omega) (by omega) hsize htl hcl hsr
      · have hex : ∃ j, j < n ∧ listed.getD j false ≠ true ∧ ∀ k, k < j → listed.getD k false = true := by
          have : ∃ j, j < n ∧ listed.getD j false ≠ true := by
            rcases Classical.em (∃ j, j < n ∧ listed.getD j false ≠ true) with h | h
            · exact h
            · exact absurd (fun j hj => Classical.byContradiction fun hne => h ⟨j, hj, hne⟩) hall
          obtain ⟨j, hj⟩ := this
          induction j using Nat.strongRecOn with
          | _ j ihj =>
            by_cases hk : ∃ k, k < j ∧ listed.getD k false ≠ true
            · obtain ⟨k, hk1, hk2⟩ := hk
              exact ihj k hk1 ⟨by omega, hk2⟩
            · exact ⟨j, hj.1, hj.2, fun k hk1 => Classical.byContradiction fun h => hk ⟨k, hk1, h⟩⟩
        obtain ⟨j0, hj0, hnl, hless⟩ := hex
        cases fuel with
        | zero => omega
        | succ fuel =>
          obtain ⟨o0, ho0⟩ := getn j0 hj0
          have hready0 : j0 ∈ Region.ready .any ops.toArray listed := mem_ready.2 ⟨by
              simp [show j0 < listed.size by omega] at hnl ⊢
              exact hnl, o0, ho0, fun e he hb => hless _ (tf.back j0 o0 ho0 e he hb)⟩
          refine ⟨fun hnil => (by rw [hnil] at hready0; cases hready0), fun i hi => ?_⟩
          obtain ⟨h0, o, ho, hpre⟩ := mem_ready.1 hi
          have hilt := (Array.getElem?_eq_some_iff.1 ho).1
          have hspec : ∀ j, ((masks ops.toArray.toList []).getD i 0).testBit j = true → listed.getD j false = true ∨ j = i := fun j hbit =>
            masks_spec (fun j => listed.getD j false = true ∨ j = i) ops.toArray.toList [] 0 rfl (fun i h => by simp at h) (fun k' o' h1 h2 e he hb => by
              rcases h2 with h2 | h2
              · left; exact hcl k' o' (by simpa using h1) (by simpa using h2) e he hb
              · left
                simp only [Nat.zero_add] at h2
                subst h2
                have : o' = o := by
                  have h1' : ops.toArray[k']? = some o' := by simpa using h1
                  rw [ho] at h1'; cases h1'; rfl
                subst this
                exact hpre e he hb) (fun k' o' h1 e he hb => by simpa using tf.back k' o' (by simpa using h1) e he hb) i (.inr rfl) j hbit
          have hin : i < n := by
            rcases Nat.lt_or_ge i n with h' | h'
            · exact h'
            · rcases hspec j0 (tf.tail i h' hilt j0 (by omega)) with h | h
              · exact absurd h hnl
              · omega
          have hclm : ∀ j, listed.getD j false = true → ∀ k, ((masks ops.toArray.toList []).getD j 0).testBit k = true → listed.getD k false = true := fun j hj k hk =>
            masks_spec (fun j => listed.getD j false = true) ops.toArray.toList [] 0 rfl (fun i h => by simp at h) (fun k' o' h1 h2 e he hb => hcl k' o' (by simpa using h1) (by simpa using h2) e he hb) (fun k' o' h1 e he hb => by simpa using tf.back k' o' (by simpa using h1) e he hb) j hj k hk
          have hunl : listed.getD i false = false := by
            simp [show i < listed.size by omega] at h0 ⊢
            exact h0
          have hs2 := step (fun j => listed.getD j false) i o hin ho hunl htl (fun j hji hbit => by
            rcases hspec j hbit with h | h
            · exact h
            · omega) hclm io F a w hsr (wpAny X.P .any ops.toArray (lift X Q) fuel (listed.setIfInBounds i true)) (lift X Q) fun io' F' a' w' hs' => by
            have hins : A (insL (fun j => listed.getD j false) i) = A (fun j => (listed.setIfInBounds i true).getD j false) := by
              congr 1
              funext j
              unfold insL
              by_cases e : j = i
              · subst e; simp [getD_set_self (show j < listed.size by omega)]
              · rw [getD_set_ne false (Ne.symm e)]; simp [e]
            rw [hins] at hs'
            refine ih fuel _ io' F' a' w' ?_ (by omega) (by simpa using hsize) (fun j hj => ?_) (fun k ok hk hlk e he hb => ?_) hs'
            · have := countP_lt (p := fun j => !listed.getD j false) (q := fun j => !(listed.setIfInBounds i true).getD j false) (i := i) (by simp [hunl]) (by simp [getD_set_self (show i < listed.size by omega)]) (fun j hj => by
                by_cases e : j = i
                · subst e; simp [hunl]
                · rw [getD_set_ne false (Ne.symm e)] at hj; exact hj) (l := List.range n) (by simpa using hin)
              omega
            · by_cases e : j = i
              · rw [e]; exact hin
              · rw [getD_set_ne false (Ne.symm e)] at hj; exact htl j hj
            · by_cases e' : k = i
              · subst e'
                rw [ho] at hk; cases hk
                exact getD_set_true (hpre e he hb)
              · rw [getD_set_ne false (Ne.symm e')] at hlk
                exact getD_set_true (hcl k ok hk hlk e he hb)
          unfold wpOp
          simp only [ho]
          exact hs2
  have hdr : SR X io F0 (A (fun j => (Array.replicate ops.toArray.size false).getD j false)) a0 w0.drew := by
    have e : (fun j => (Array.replicate ops.toArray.size false).getD j false) = fun _ => false := by
      funext j
      simp only [Array.getD_eq_getD_getElem?, Array.getElem?_replicate]
      split <;> rfl
    rw [e, h0]
    exact hs.drew
  refine key n ops.toArray.size _ io F0 a0 w0.drew ?_ (by omega) (by simp) (fun j hj => ?_) (fun i o ho hl => ?_) hdr
  · exact Nat.le_trans List.countP_le_length (by simp)
  · simp only [Array.getD_eq_getD_getElem?, Array.getElem?_replicate] at hj
    split at hj <;> simp at hj
  · simp only [Array.getD_eq_getD_getElem?, Array.getElem?_replicate] at hl
    split at hl <;> simp at hl

/-! ## Appends -/

def isApp (o : Oper) : Bool := match o.op with | .call c => (match c.callee with | .builtin .append => true | _ => false) | _ => false
def conflA (all : Array Oper) (a b : Oper) : Bool := looksB all b a.dst || looksB all a b.dst || (match a.dst, b.dst with | some x, some y => x == y | _, _ => false) || (isApp a && isApp b)
def ordA (ops : Array Oper) (n : Nat) : Bool :=
  backward ops && Nat.ble n ops.size &&
  ((List.range n).all fun j => match ops[j]? with
    | some b => (List.range j).all fun i => match ops[i]? with
      | some a => !(conflA ops a b) || ((masks ops.toList []).getD j 0).testBit i
      | none => false
    | none => false) &&
  ((List.range ops.size).all fun i => Nat.blt i n || Nat.beq ((masks ops.toList []).getD i 0) (2 ^ i - 1)) &&
  ((List.range n).all fun j => match ops[j]? with
    | some b => isApp b || (List.range n).all fun i => match ops[i]? with | some a => !(isApp a) || !(looksB ops b a.dst) | none => false
    | none => false)
structure OrdA (ops : Array Oper) (n : Nat) : Prop where
  tf : TailFacts ops n
  ord : ∀ i j a b, i < j → j < n → ops[i]? = some a → ops[j]? = some b → conflA ops a b = true → ((masks ops.toList []).getD j 0).testBit i = true
  reg : ∀ i j a b, i < n → j < n → ops[i]? = some a → ops[j]? = some b → isApp a = true → isApp b = false → looksB ops b a.dst = false
theorem ordA_spec {ops : Array Oper} {n : Nat} (h : ordA ops n = true) : OrdA ops n := by
  simp only [ordA, Bool.and_eq_true] at h
  obtain ⟨⟨⟨⟨hb, hle⟩, hm⟩, ht⟩, hr⟩ := h
  refine ⟨⟨fun i o hi e he hbind => ?_, Nat.le_of_ble_eq_true hle, fun i h1 h2 j hj => ?_⟩, fun i j a b hij hj ha hb' hc => ?_, fun i j a b hi hj ha hb' h1 h2 => ?_⟩
  · simp only [backward, List.all_eq_true, List.mem_range] at hb
    have := hb i (Array.getElem?_eq_some_iff.1 hi).1
    rw [hi] at this
    simp only [List.all_eq_true] at this
    have := this e (by simpa using he)
    rw [hbind] at this
    simpa [Nat.blt_eq] using this
  · simp only [List.all_eq_true, List.mem_range] at ht
    have h3 := ht i h2
    have hnb : Nat.blt i n = false := by
      cases hq : Nat.blt i n with
      | false => rfl
      | true => have : i < n := by simpa [Nat.blt_eq] using hq
                omega
    rw [hnb, Bool.false_or] at h3
    have h4 := Nat.eq_of_beq_eq_true h3
    rw [h4, Nat.testBit_two_pow_sub_one]
    simpa using hj
  · simp only [List.all_eq_true, List.mem_range] at hm
    have h1 := hm j hj
    rw [hb'] at h1
    simp only [List.all_eq_true, List.mem_range] at h1
    have h2 := h1 i hij
    rw [ha] at h2
    simp only [hc, Bool.not_true, Bool.false_or] at h2
    exact h2
  · simp only [List.all_eq_true, List.mem_range] at hr
    have h3 := hr j hj
    rw [hb'] at h3
    simp only [h2, Bool.false_or, List.all_eq_true, List.mem_range] at h3
    have h4 := h3 i hi
    rw [ha] at h4
    simpa only [h1, Bool.not_true, Bool.false_or, Bool.not_eq_true'] using h4

inductive UpdA : Type 1 where
  | reg (d : Option Tmp) (x : V)
  | app (d : Tmp) (x : V) (k : Nat) (b : Blk)
def UpdA.dst : UpdA → Option Tmp
  | .reg d _ => d
  | .app d _ _ _ => some d
def UpdA.isApp : UpdA → Bool
  | .reg _ _ => false
  | .app _ _ _ _ => true
def apA (s : St) : UpdA → St
  | .reg d x => s.put d x
  | .app d x k b => (s.new k b).put (some d) x
def accA (s : St) (us : Nat → UpdA) (L : Nat → Bool) : Nat → St
  | 0 => s
  | n + 1 => bif L n then apA (accA s us L n) (us n) else accA s us L n
theorem new_tmps {s : St} {k : Nat} {b : Blk} (t : Nat) : (s.new k b).tmps t = (s.tmps t).sub k none := rfl
theorem put_tmps {s : St} {d : Tmp} {x : V} (t : Nat) : (s.put (some d) x).tmps t = if t = d then x else s.tmps t := by
  simp only [St.put]
  by_cases h : t = d
  · subst h; simp
  · rw [if_neg h, beq_of_ne h]; rfl
theorem new_put {s : St} {d : Option Tmp} {x : V} {k : Nat} {b : Blk} (h : x.noKey k = true) : (s.put d x).new k b = (s.new k b).put d x := by
  cases d with
  | none => rfl
  | some d =>
    refine St.eta (funext fun t => ?_) rfl rfl
    rw [new_tmps, put_tmps, put_tmps, new_tmps]
    split
    · exact V.sub_noKey _ h
    · rfl
theorem put_comm {s : St} {d d' : Option Tmp} {x x' : V} (h : ∀ t, d = some t → d' ≠ some t) : (s.put d x).put d' x' = (s.put d' x').put d x := by
  cases d with
  | none => rfl
  | some d => cases d' with
    | none => rfl
    | some d' =>
      refine St.eta (funext fun t => ?_) rfl rfl
      simp only [put_tmps]
      by_cases h1 : t = d
      · subst h1
        rw [if_pos rfl, if_pos rfl, if_neg (fun e => h t rfl (by rw [e]))]
      · by_cases h2 : t = d'
        · subst h2; rw [if_pos rfl, if_neg h1, if_pos rfl]
        · rw [if_neg h2, if_neg h1, if_neg h1, if_neg h2]
theorem accA_blk {s : St} {us : Nat → UpdA} {L L' : Nat → Bool} : ∀ n, (∀ i, i < n → (us i).isApp = true → L i = L' i) → (accA s us L n).blk = (accA s us L' n).blk
  | 0, _ => rfl
  | n + 1, h => by
    have ih := accA_blk (s := s) (L := L) (L' := L') n fun i hi => h i (by omega)
    simp only [accA]
    cases hu : us n with
    | reg d x =>
      have e : ∀ (b : Bool) (s0 : St), (bif b then apA s0 (.reg d x) else s0).blk = s0.blk := fun b s0 => by cases b <;> simp [apA, put_blk]
      rw [e, e, ih]
    | app d x k b =>
      rw [h n (by omega) (by rw [hu]; rfl)]
      cases L' n with
      | true =>
        simp only [cond_true, apA, put_blk]
        show (fun j => _) = (fun j => _)
        funext j
        simp only [St.new, St.withBlk, St.sub, ih]
      | false => exact ih
theorem accA_reg {s : St} {us : Nat → UpdA} {ks : List Nat} {L L' : Nat → Bool} {t : Nat} (h0 : ∀ k ∈ ks, (s.tmps t).noKey k = true) : ∀ n, (∀ i, i < n → (us i).dst = some t → L i = L' i ∧ (us i).isApp = false) → (∀ i, i < n → ∀ d x, us i = .reg d x → ∀ k ∈ ks, x.noKey k = true) → (∀ i, i < n → ∀ d x k b, us i = .app d x k b → k ∈ ks) →
    (accA s us L n).tmps t = (accA s us L' n).tmps t ∧ ∀ k ∈ ks, ((accA s us L n).tmps t).noKey k = true
  | 0, _, _, _ => ⟨rfl, h0⟩
  | n + 1, h1, h2, h3 => by
    obtain ⟨ih, ik⟩ := accA_reg (L := L) (L' := L') h0 n (fun i hi => h1 i (by omega)) (fun i hi => h2 i (by omega)) (fun i hi => h3 i (by omega))
    simp only [accA]
    cases hu : us n with
    | reg d x =>
      by_cases hd : d = some t
      · subst hd
        rw [(h1 n (by omega) (by rw [hu]; rfl)).1]
        have hx := h2 n (by omega) _ x hu
        cases L' n with
        | true => simp only [cond_true, apA, put_tmps, if_true, true_and]; exact hx
        | false => exact ⟨ih, ik⟩
      · have e : ∀ (b : Bool) (s0 : St), (bif b then apA s0 (.reg d x) else s0).tmps t = s0.tmps t := fun b s0 => by cases b <;> simp only [cond_true, cond_false, apA]; exact put_tmps_ne hd
        rw [e, e]; exact ⟨ih, ik⟩
    | app d x k b =>
      have hd : ¬ t = d := fun e => by
        have := (h1 n (by omega) (by rw [hu, e]; rfl)).2
        rw [hu] at this; cases this
      have hk := h3 n (by omega) d x k b hu
      have hk' : ∀ k ∈ ks, ((accA s us L' n).tmps t).noKey k = true := by rw [← ih]; exact ik
      have e : ∀ (b' : Bool) (s0 : St), (∀ k ∈ ks, (s0.tmps t).noKey k = true) → (bif b' then apA s0 (.app d x k b) else s0).tmps t = s0.tmps t := fun b' s0 hs => by
        cases b' with
        | true => simp only [cond_true, apA]; rw [put_tmps, if_neg hd, new_tmps, V.sub_noKey _ (hs k hk)]
        | false => rfl
      rw [e _ _ ik, e _ _ hk']; exact ⟨ih, ik⟩
theorem accA_app {s : St} {us : Nat → UpdA} {L L' : Nat → Bool} {t : Nat} : ∀ n, (∀ i, i < n → (us i).dst = some t → L i = L' i) → (∀ i, i < n → (us i).isApp = true → L i = L' i) → (accA s us L n).tmps t = (accA s us L' n).tmps t
  | 0, _, _ => rfl
  | n + 1, h1, h2 => by
    have ih := accA_app (s := s) (L := L) (L' := L') (t := t) n (fun i hi => h1 i (by omega)) (fun i hi => h2 i (by omega))
    simp only [accA]
    cases hu : us n with
    | reg d x =>
      by_cases hd : d = some t
      · subst hd
        rw [h1 n (by omega) (by rw [hu]; rfl)]
        cases L' n with
        | true => simp only [cond_true, apA, put_tmps, if_true]
        | false => exact ih
      · have e : ∀ (b : Bool) (s0 : St), (bif b then apA s0 (.reg d x) else s0).tmps t = s0.tmps t := fun b s0 => by cases b <;> simp only [cond_true, cond_false, apA]; exact put_tmps_ne hd
        rw [e, e]; exact ih
    | app d x k b =>
      rw [h2 n (by omega) (by rw [hu]; rfl)]
      cases L' n with
      | true => simp only [cond_true, apA, put_tmps, new_tmps, ih]
      | false => exact ih
theorem accA_insert {s : St} {us : Nat → UpdA} {L : Nat → Bool} {i : Nat} (hL : L i = false) : ∀ n, i < n → (∀ j, i < j → j < n → L j = true → ∀ s0, apA (apA s0 (us i)) (us j) = apA (apA s0 (us j)) (us i)) → accA s us (insL L i) n = apA (accA s us L n) (us i)
  | 0, h, _ => by omega
  | n + 1, h, hc => by
    have same : ∀ j, j ≠ i → insL L i j = L j := fun j hj => by unfold insL; rw [beq_of_ne hj]; rfl
    have hi : insL L i i = true := by unfold insL; simp
    simp only [accA]
    by_cases e : i = n
    · subst e
      have h2 : accA s us (insL L i) i = accA s us L i := by
        have : ∀ m, m ≤ i → accA s us (insL L i) m = accA s us L m := by
          intro m
          induction m with
          | zero => intro _; rfl
          | succ m ih => intro hm; simp only [accA]; rw [ih (by omega), same m (by omega)]
        exact this i (Nat.le_refl _)
      rw [hi, hL, h2]; rfl
    · rw [accA_insert hL n (by omega) (fun j h1 h2 => hc j h1 (by omega)), same n (Ne.symm e)]
      cases hn : L n with
      | true => simp only [cond_true]; exact hc n (by omega) (by omega) hn _
      | false => rfl
theorem accA_congr {s : St} {us : Nat → UpdA} {L L' : Nat → Bool} : ∀ m, (∀ j, j < m → L j = L' j) → accA s us L m = accA s us L' m
  | 0, _ => rfl
  | m + 1, h => by simp only [accA]; rw [accA_congr m (fun j hj => h j (by omega)), h m (by omega)]

inductive PRunA (X : Ctx) (all : Array Oper) (ks : List Nat) : List Oper → St → St → Prop
  | nil {s : St} : PRunA X all ks [] s s
  | reg {o : Oper} {rest : List Oper} {s s' : St} {x : V} (hd : dstOk X.N o.dst = true) (h : ∀ s' : St, (∀ t ∈ o.looksAt all, s'.tmps t = s.tmps t) → M1 X all s' o x) (hna : isApp o = false) (hx : (ks.all fun k => x.noKey k) = true) (k : PRunA X all ks rest (s.put o.dst x) s') : PRunA X all ks (o :: rest) s s'
  | app {o : Oper} {rest : List Oper} {s s' : St} {d : Tmp} {x : V} {k : Nat} {b : Blk} (ha : isApp o = true) (hd : o.dst = some d) (hk : ks.contains k = true) (h : ∀ s' : St, s'.blk = s.blk → (∀ t ∈ o.looksAt all, s'.tmps t = s.tmps t) → E1 X all s' o ((s'.new k b).put (some d) x)) (kk : PRunA X all ks rest ((s.new k b).put (some d) x) s') : PRunA X all ks (o :: rest) s s'
inductive UpdOkA (X : Ctx) (all : Array Oper) (ks : List Nat) (s : St) (o : Oper) : UpdA → Prop
  | reg {x : V} (hd : dstOk X.N o.dst = true) (h : ∀ s' : St, (∀ t ∈ o.looksAt all, s'.tmps t = s.tmps t) → M1 X all s' o x) (hna : isApp o = false) (hx : (ks.all fun k => x.noKey k) = true) : UpdOkA X all ks s o (.reg o.dst x)
  | app {d : Tmp} {x : V} {k : Nat} {b : Blk} (ha : isApp o = true) (hd : o.dst = some d) (hk : ks.contains k = true) (h : ∀ s' : St, s'.blk = s.blk → (∀ t ∈ o.looksAt all, s'.tmps t = s.tmps t) → E1 X all s' o ((s'.new k b).put (some d) x)) : UpdOkA X all ks s o (.app d x k b)
theorem prunA_us {X : Ctx} {all : Array Oper} {ks : List Nat} : ∀ {l : List Oper} {s s' : St}, PRunA X all ks l s s' → ∃ us : Nat → UpdA, s' = accA s us (fun _ => true) l.length ∧ ∀ i o, l[i]? = some o → UpdOkA X all ks (accA s us (fun _ => true) i) o (us i)
  | [], s, s', h => by
    cases h
    exact ⟨fun _ => .reg none (.d .undef), rfl, fun i o h => by simp at h⟩
  | o :: rest, s, s', h => by
    have shift : ∀ (u0 : UpdA) (us : Nat → UpdA) (m : Nat) (s0 : St), accA s0 (fun i => match i with | 0 => u0 | i + 1 => us i) (fun _ => true) (m + 1) = accA (apA s0 u0) us (fun _ => true) m := fun u0 us m s0 => by
      induction m with
      | zero => rfl
      | succ m ih => rw [accA, ih]; rfl
    have fin : ∀ (u0 : UpdA), UpdOkA X all ks s o u0 → PRunA X all ks rest (apA s u0) s' → ∃ us : Nat → UpdA, s' = accA s us (fun _ => true) (o :: rest).length ∧ ∀ i o', (o :: rest)[i]? = some o' → UpdOkA X all ks (accA s us (fun _ => true) i) o' (us i) := fun u0 h0 hk => by
      obtain ⟨us, h1, h2⟩ := prunA_us hk
      refine ⟨fun i => match i with | 0 => u0 | i + 1 => us i, ?_, fun i o' hi => ?_⟩
      · rw [List.length_cons, shift, h1]
      · cases i with
        | zero => simp at hi; subst hi; exact h0
        | succ i => rw [shift]; exact h2 i o' (by simpa using hi)
    cases h with
    | reg hd hm hna hx hk => exact fin _ (.reg hd hm hna hx) hk
    | app ha hd hk hm kk => exact fin _ (.app ha hd hk hm) kk

theorem awp_region_app {X : Ctx} (hm : X.P.follows .mixedOrders = true) {id : Nat} {ops : List Oper} (n : Nat) (ks : List Nat) (hok : ordA ops.toArray n = true) {Q : Exit → St → Prop} {sx s1 : St} (hKs : (ks.all fun k => !(X.K.contains k)) = true) (hdf : sx.dfs = []) (hrun : PRunA X ops.toArray ks (ops.take n) (sx.kills ks) s1) (htail : awpL X ops.toArray (ops.drop n) Q s1) : awp X (.region id ops.toArray true) Q sx := by
  have hf := ordA_spec hok
  have hfree := FreeSt.kills (s := sx) ks
  have hdf2 : (sx.kills ks).dfs = [] := by
    clear hrun hfree hKs
    induction ks with
    | nil => exact hdf
    | cons k r ih =>
      show dfSub k none (sx.kills r).dfs = []
      rw [ih]; rfl
  have main : awp X (.region id ops.toArray true) Q (sx.kills ks) := by
    generalize sx.kills ks = s at hfree hrun hdf2
    obtain ⟨us, hs1, hx⟩ := prunA_us hrun
    have hle := hf.tf.le
    have hsz : ops.toArray.size = ops.length := rfl
    have getop : ∀ i, i < n → (ops.take n)[i]? = ops.toArray[i]? := fun i hi => by simp [List.getElem?_take, hi]
    have hlen : (ops.take n).length = n := by simp; omega
    rw [hlen] at hs1
    have ok : ∀ i o, i < n → ops.toArray[i]? = some o → UpdOkA X ops.toArray ks (accA s us (fun _ => true) i) o (us i) := fun i o hi ho => hx i o (by rw [getop i hi]; exact ho)
    have getn : ∀ j, j < n → ∃ o, ops.toArray[j]? = some o := fun j hj => ⟨_, Array.getElem?_eq_getElem (by omega)⟩
    have dstOf : ∀ i o, i < n → ops.toArray[i]? = some o → (us i).dst = o.dst ∧ (us i).isApp = isApp o := fun i o hi ho => by
      have := ok i o hi ho
      generalize us i = u at this
      cases this with
      | reg _ _ hna => exact ⟨rfl, hna.symm⟩
      | app ha hd => exact ⟨hd.symm, ha.symm⟩
    have regx : ∀ i, i < n → ∀ d x, us i = .reg d x → ∀ k ∈ ks, x.noKey k = true := fun i hi d x hu k hk => by
      obtain ⟨o, ho⟩ := getn i hi
      have := ok i o hi ho
      rw [hu] at this
      cases this with
      | reg _ _ _ hx => rw [List.all_eq_true] at hx; exact hx k hk
    have appk : ∀ i, i < n → ∀ d x k b, us i = .app d x k b → k ∈ ks := fun i hi d x k b hu => by
      obtain ⟨o, ho⟩ := getn i hi
      have := ok i o hi ho
      rw [hu] at this
      cases this with
      | app _ _ hk => simpa [List.contains_eq_mem] using hk
    have full : ∀ i, i ≤ n → accA s us (fun _ => true) i = accA s us (fun j => decide (j < i)) n := fun i hi => by
      have h1 : accA s us (fun _ => true) i = accA s us (fun j => decide (j < i)) i := accA_congr i fun j hj => by simp [hj]
      have h2 : ∀ m, i ≤ m → m ≤ n → accA s us (fun j => decide (j < i)) m = accA s us (fun j => decide (j < i)) i := by
        intro m
        induction m with
        | zero => intro h1 _; obtain rfl : i = 0 := by omega
                  rfl
        | succ m ih =>
          intro h1 h2
          by_cases e : i = m + 1
          · rw [e]
          · simp only [accA]; rw [ih (by omega) (by omega)]; simp [show ¬ m < i by omega]
      rw [h1, h2 n hi (Nat.le_refl _)]
    refine awp_region_gen hm n hf.tf (fun L => accA s us L n) (s1 := s1) ?_ (fun L h1 h2 => ?_) (fun L i o hi ho hLi hLn hLp hLc => ?_) htail
    · have : ∀ m, accA s us (fun _ => false) m = s := by
        intro m
        induction m with
        | zero => rfl
        | succ m ih => simp only [accA, cond_false]; exact ih
      exact this n
    · rw [hs1]
      exact accA_congr n fun j hj => h1 j hj
    · have diff : ∀ j b, j < n → ops.toArray[j]? = some b → conflA ops.toArray b o = true ∨ conflA ops.toArray o b = true → L j = decide (j < i) := fun j b hj hb hc => by
        have sym : conflA ops.toArray b o = true ∧ conflA ops.toArray o b = true := by
          have : conflA ops.toArray b o = conflA ops.toArray o b := by
            unfold conflA
            rw [Bool.or_comm (looksB ops.toArray o b.dst), Bool.and_comm (isApp b)]
            congr 1
            congr 1
            cases b.dst <;> cases o.dst <;> simp [Bool.beq_comm, eq_comm]
          rw [this] at hc ⊢
          simpa using hc
        rcases Nat.lt_trichotomy j i with h | h | h
        · rw [decide_eq_true h]; exact hLp j h (hf.ord j i b o h hi hb ho sym.1)
        · subst h; rw [hLi, decide_eq_false (by omega)]
        · rw [decide_eq_false (by omega)]
          cases hL : L j with
          | false => rfl
          | true =>
            have := hLc j hL i (hf.ord i j o b h hj ho hb sym.2)
            rw [hLi] at this; cases this
      have hins : accA s us (insL L i) n = apA (accA s us L n) (us i) := accA_insert hLi n hi fun j hij hjn hLj s0 => by
        obtain ⟨b, hb⟩ := getn j hjn
        have hnc : conflA ops.toArray o b = false := by
          cases hc : conflA ops.toArray o b with
          | false => rfl
          | true =>
            have := hLc j hLj i (hf.ord i j o b hij hjn ho hb hc)
            rw [hLi] at this; cases this
        simp only [conflA, Bool.or_eq_false_iff] at hnc
        obtain ⟨⟨_, h3⟩, h4⟩ := hnc
        have hd : ∀ t, (us i).dst = some t → (us j).dst ≠ some t := fun t e1 e2 => by
          rw [(dstOf i o hi ho).1] at e1
          rw [(dstOf j b hjn hb).1] at e2
          rw [e1, e2] at h3
          simp at h3
        have hap : ¬ ((us i).isApp = true ∧ (us j).isApp = true) := fun ⟨e1, e2⟩ => by
          rw [(dstOf i o hi ho).2] at e1
          rw [(dstOf j b hjn hb).2] at e2
          rw [e1, e2] at h4; cases h4
        cases hui : us i with
        | reg d x =>
          rw [hui] at hd
          cases huj : us j with
          | reg d' x' => rw [huj] at hd; simp only [apA]; exact put_comm hd
          | app d' x' k' b' =>
            rw [huj] at hd
            simp only [apA]
            rw [new_put (regx i hi d x hui k' (appk j hjn d' x' k' b' huj))]
            exact put_comm (d := d) (d' := some d') hd
        | app d x k' b' =>
          rw [hui] at hd hap
          cases huj : us j with
          | reg d' x' =>
            rw [huj] at hd
            simp only [apA]
            rw [new_put (regx j hjn d' x' huj k' (appk i hi d x k' b' hui))]
            exact put_comm (d := some d) (d' := d') hd
          | app d' x' k'' b'' => rw [huj] at hap; exact absurd ⟨rfl, rfl⟩ hap
      show E1 X ops.toArray (accA s us L n) o (accA s us (insL L i) n)
      rw [hins]
      have hoki := ok i o hi ho
      cases hui : us i with
      | reg d x =>
        rw [hui] at hoki
        cases hoki with
        | reg hd h hna hxx =>
          refine (h (accA s us L n) fun t ht => ?_).e1 hd
          rw [full i (by omega)]
          refine (accA_reg (ks := ks) (fun k hk => (hfree k hk).tm t) n (fun j hj hu => ?_) regx appk).1
          obtain ⟨b, hb⟩ := getn j hj
          have hbd : b.dst = some t := by rw [← (dstOf j b hj hb).1]; exact hu
          refine ⟨diff j b hj hb (.inl (by simp [conflA, hbd, looksB_of ht])), ?_⟩
          rw [(dstOf j b hj hb).2]
          cases hab : isApp b with
          | false => rfl
          | true =>
            have := hf.reg j i b o hj hi hb ho hab hna
            rw [hbd, looksB_of ht] at this; cases this
      | app d x k b =>
        rw [hui] at hoki
        cases hoki with
        | app ha hd hk h =>
          have happ : ∀ j, j < n → (us j).isApp = true → L j = decide (j < i) := fun j hj hu => by
            obtain ⟨b', hb'⟩ := getn j hj
            exact diff j b' hj hb' (.inl (by simp [conflA, ha, ← (dstOf j b' hj hb').2, hu]))
          refine h (accA s us L n) ?_ fun t ht => ?_
          · rw [full i (by omega)]
            exact accA_blk n happ
          · rw [full i (by omega)]
            refine accA_app n (fun j hj hu => ?_) happ
            obtain ⟨b', hb'⟩ := getn j hj
            have hbd : b'.dst = some t := by rw [← (dstOf j b' hj hb').1]; exact hu
            exact diff j b' hj hb' (.inl (by simp [conflA, hbd, looksB_of ht]))
  intro io F a w hs
  obtain ⟨io', hs'⟩ := SR.kills ks io (fun k hk => by
    simp only [List.all_eq_true] at hKs
    have := hKs k hk
    simpa [List.contains_eq_mem] using this) hs
  exact main io' F a w hs'

def awpA (ks : List Nat) (X : Ctx) (all : Array Oper) (pre rest : List Oper) (Q : Exit → St → Prop) (s : St) : Prop := ∃ s1, PRunA X all ks pre s s1 ∧ awpL X all rest Q s1
def isSl (o : Oper) : Bool := match o.op with | .slice .. => true | _ => false
def freeOp (s : St) (o : Oper) : Bool := isMove o || isSl o || (isLoad o && (match keyOf s o with | none => true | _ => false))
def SrcB (X : Ctx) (β : Nat → Option Blk) (y : V) (sz : Nat) {α : Type} (e : α → List D) (z : α) (l : List α) : Prop := ∀ s' : St, s'.blk = β → SrcOk X s' y sz e l
section
variable {X : Ctx} {all : Array Oper} {Q : Exit → St → Prop} {s : St} {o : Oper} {pre rest : List Oper} {ks : List Nat}
theorem awpA_nil (h : awpL X all rest Q s) : awpA ks X all [] rest Q s := ⟨s, .nil, h⟩
theorem optI_agree {s' : St} {y : Option Operand} (h : ∀ z, y = some z → s'.opd z = s.opd z) : optI s' y = optI s y := by
  cases y with
  | none => rfl
  | some z => simp only [optI, h z rfl]
theorem evalQ_slice {T : TypeId → Option TyD} {m : Bool} {s' : St} (hm : isSl o = true) (h : ∀ t ∈ o.looksAt all, s'.tmps t = s.tmps t) : evalQ T m s' o.op = evalQ T m s o.op := by
  have hop := fun y hy => opd_agree (s := s) (s' := s') (o := o) (all := all) (y := y) hy h
  unfold isSl at hm
  split at hm
  · rename_i t x lo hi mx e
    rw [e] at hop ⊢
    have h1 := hop x (by simp [Op.operands])
    have h2 : optI s' lo = optI s lo := optI_agree fun z hz => hop z (by subst hz; simp [Op.operands])
    have h3 : optI s' hi = optI s hi := optI_agree fun z hz => hop z (by subst hz; simp [Op.operands])
    have h4 : optI s' mx = optI s mx := optI_agree fun z hz => hop z (by subst hz; simp [Op.operands])
    simp only [evalQ, h1, h2, h3, h4]
  · cases hm
theorem stepAQ {d : Tmp} {C : Prop} {x : V} (m : Bool) (hk : Nat.beq (opK o.op) 0 = true) (hg : gd all s o = some true) (hdst : o.dst = some d) (hd : dstOk X.N (some d) = true) (hq : evalF X.T m s o.op = some (C, x)) (hC : C) (hfr : freeOp s o = true) (hna : isApp o = false) (hf : (ks.all fun k => x.noKey k) = true) (k : awpA ks X all pre rest Q (s.put (some d) x)) : awpA ks X all (o :: pre) rest Q s := by
  rw [← hdst] at hd k
  obtain ⟨s1, h1, h2⟩ := k
  refine ⟨s1, .reg hd (fun s' hs' => m_q m ((gd_agree hs').trans hg) ?_ hC) hna hf h1, h2⟩
  rw [evalF_eq] at hq ⊢
  unfold freeOp at hfr
  rw [Bool.or_eq_true, Bool.or_eq_true] at hfr
  rcases hfr with (hfr | hfr) | hfr
  · rw [evalQ_move hfr hs']; exact hq
  · rw [evalQ_slice hfr hs']; exact hq
  · rw [Bool.and_eq_true] at hfr
    refine evalQ_load hfr.1 hq hs' fun k b hkey _ => ?_
    rw [hkey] at hfr
    cases hfr.2
theorem stepALit {d : Tmp} {e : TypeId} {sz len : Nat} {rows : List (List D)} (hkk : Nat.beq (opK o.op) 5 = true) (h : evalB X.T s o.op = some (e, sz, len, rows)) (hdst : o.dst = some d) (hg : gd all s o = some true) (hd : dstOk X.N (some d) = true) (k : awpA ks X all pre rest Q (s.put (some d) (.d (.sl sz (nth [] rows) 0 (iota len 0))))) : awpA ks X all (o :: pre) rest Q s := by
  rw [← hdst] at hd k
  obtain ⟨s1, h1, h2⟩ := k
  have hna : isApp o = false := by
    unfold isApp
    split
    · rename_i c e'
      rw [e'] at h
      cases h
    · rfl
  refine ⟨s1, .reg hd (fun s' hs' => m_lit (e := e) X.ok ((gd_agree hs').trans hg) ?_) hna (by simp [V.noKey]) h1, h2⟩
  have hop := fun y hy => opd_agree (s := s) (s' := s') (o := o) (all := all) (y := y) hy hs'
  revert h
  cases he : o.op with
  | buildSlice t n parts =>
    rw [he] at hop
    have e1 : (parts.toList.map fun p => (p.1, s'.opd p.2)) = parts.toList.map fun p => (p.1, s.opd p.2) := List.map_congr_left fun p hp => by
      rw [hop p.2 (by simp only [Op.operands]; simp; exact ⟨p.1, by simpa using hp⟩)]
    simp only [evalB, e1]
    exact id
  | _ => intro h; cases h
theorem callee_agree {s' : St} {c : Call} (hop : o.op = .call c) (h : ∀ t ∈ o.looksAt all, s'.tmps t = s.tmps t) : calleeOf s' c = calleeOf s c ∧ c.args.toList.map s'.opd = c.args.toList.map s.opd := by
  have ho := fun y hy => opd_agree (s := s) (s' := s') (o := o) (all := all) (y := y) hy h
  rw [hop] at ho
  constructor
  · unfold calleeOf
    cases hc : c.callee with
    | value y =>
      have := ho y (by simp only [Op.operands, Call.operands, hc]; simp)
      simp only [this]
    | _ => rfl
  · exact List.map_congr_left fun y hy => ho y (by simp only [Op.operands, Call.operands]; simp; right; simpa using hy)
theorem clA {c : Call} {caps : List V} {ds ds' : List D} {r : D} {d : Tmp} (f : FuncId) (hcf : calleeIs s o.op f = true) (hop : o.op = .call c) (hc : calleeOf s c = some (f, caps)) (hdst : o.dst = some d) (hr : Ret X.P f ds' (· = r)) (k : awpA ks X all pre rest Q (s.put (some d) (.d r))) (hg : gd all s o = some true := by exact rfl) (hd : dstOk X.N (some d) = true := by exact rfl) (ha : allD (c.args.toList.map s.opd ++ caps) = some ds := by exact rfl) (le : LeT ds ds' := by exact Go.Vw.leT) : awpA ks X all (o :: pre) rest Q s := by
  rw [← hdst] at hd k
  obtain ⟨s1, h1, h2⟩ := k
  have hna : isApp o = false := by
    unfold isApp
    rw [hop]
    unfold calleeOf at hc
    split at hc
    · rename_i y e; simp only [e]
    · cases hc
  refine ⟨s1, .reg hd (fun s' hs' => ?_) hna (by simp [V.noKey]) h1, h2⟩
  obtain ⟨e1, e2⟩ := callee_agree (s := s) hop hs'
  exact m_callR ((gd_agree hs').trans hg) hop (e1.trans hc) (by rw [e2]; exact ha) le hr
theorem srcB_d {β : Nat → Option Blk} {sz : Nat} {α : Type} {e : α → List D} {z : α} {l : List α} : SrcB X β (.d (.sl sz e z l)) sz e z l := fun s' _ => src_data (LeD.refl _)
theorem srcB_own {β : Nat → Option Blk} {k o n : Nat} {ty ty' : TypeId} {sz : Nat} {α : Type} {e : α → List D} {z : α} {l : List α} (hk : β k = some (.data ty' sz e z l)) : SrcB X β (.own k o n ty sz) sz e z (cut o n l) := fun s' hs => src_own (by rw [hs]; exact hk)
theorem srcB_lit {β : Nat → Option Blk} {sz n : Nat} {α : Type} {e : α → List D} {z : α} {rows : List (List D)} {a : α} {l : List α} (hn : rows.length = n) (h : LeR sz rows e (a :: l)) : SrcB X β (.d (.sl sz (nth [] rows) 0 (iota n 0))) sz e z (a :: l) := fun s' _ => src_lit hn h
theorem srcB {β : Nat → Option Blk} {y : V} {sz : Nat} {α : Type} {e : α → List D} {z : α} {l : List α} (h : SrcB X β y sz e z l := by
  first
  | exact Go.Vw.srcB_lit rfl (Go.Vw.LeR.cons rfl Go.Vw.leL Go.Vw.LeR.nil)
  | exact Go.Vw.srcB_own rfl
  | exact Go.Vw.srcB_d
  | fail) : SrcB X β y sz e z l := h
theorem stepAApp {d : Tmp} {td ed : TyD} {α : Type} {en : α → List D} {z : α} {l l2 : List α} {t : TypeId} {c : Call} {x y : Operand} {e : TypeId} {k n : Nat} (hkk : Nat.beq (opK o.op) 3 = true) (hop : o.op = .call c) (hc : c = ⟨.builtin .append, #[x, y], #[t, t]⟩) (hdst : o.dst = some d) (hg : gd all s o = some true) (hd : dstOk X.N (some d) = true) (ht : X.T t = some td) (hds : td.desc = .slice e) (he : X.T e = some ed) (hx : s.opd x = .own k 0 n e ed.size) (hK : X.K.contains k = false) (hks : ks.contains k = true) (hk : s.blk k = some (.data e ed.size en z l)) (hz : zeroOk ed = true) (hn : n = l.length) (hy : SrcB X s.blk (s.opd y) ed.size en z l2) (hb : l.length + l2.length ≤ 9223372036854775807 ∧ (l.length + l2.length) * ed.bytes ≤ 140737488355328) (r : awpA ks X all pre rest Q ((s.new k (.data e ed.size en z (l ++ l2))).put (some d) (.own k 0 (l ++ l2).length e ed.size))) : awpA ks X all (o :: pre) rest Q s := by
  obtain ⟨dst, op, ty, pos, after, g⟩ := o
  cases hop; cases hdst; subst hc
  obtain ⟨s1, h1, h2⟩ := r
  refine ⟨s1, .app rfl rfl hks (fun s' hb' htm => ?_) h1, h2⟩
  have e2 := opd_agree (o := ⟨some d, .call ⟨.builtin .append, #[x, y], #[t, t]⟩, ty, pos, after, g⟩) (all := all) (y := y) (by simp [Op.operands, Call.operands]) htm
  exact e_append X.ok ((gd_agree htm).trans hg) hd ht hds he hK ((opd_agree (by simp [Op.operands, Call.operands]) htm).trans hx) (by rw [hb']; exact hk) hn (by rw [e2]; exact hy s' hb') hz hb
theorem new_new {s : St} {k : Nat} {b b' : Blk} : (s.new k b).new k b' = s.new k b' := by
  refine St.eta (funext fun t => ?_) (funext fun j => ?_) ?_
  · show ((s.tmps t).sub k none).sub k none = (s.tmps t).sub k none
    exact V.sub_noKey _ (V.noKey_sub _)
  · simp only [St.new, St.withBlk, St.sub]
    cases Nat.beq j k with
    | true => rfl
    | false =>
      simp only [cond_false]
      cases s.blk j with
      | none => rfl
      | some b0 => simp only [Blk.sub_noKey (Blk.noKey_sub b0)]
  · show dfSub k none (dfSub k none s.dfs) = dfSub k none s.dfs
    exact dfSub_no dfNo_sub
theorem stepAAppNil {d : Tmp} {td ed : TyD} {α : Type} {en : α → List D} {z : α} {l2 : List α} {t : TypeId} {c : Call} {x y : Operand} {e : TypeId} (hkk : Nat.beq (opK o.op) 3 = true) (hop : o.op = .call c) (hc : c = ⟨.builtin .append, #[x, y], #[t, t]⟩) (hdst : o.dst = some d) (hg : gd all s o = some true) (hd : dstOk X.N (some d) = true) (ht : X.T t = some td) (hds : td.desc = .slice e) (he : X.T e = some ed) (hx : s.opd x = .d .nils) (hK : X.K.contains d = false) (hks : ks.contains d = true) (hz : zeroOk ed = true) (hy : SrcB X s.blk (s.opd y) ed.size en z l2) (hb : l2.length ≤ 9223372036854775807 ∧ l2.length * ed.bytes ≤ 140737488355328) (r : awpA ks X all pre rest Q ((s.new d (.data e ed.size en z l2)).put (some d) (.own d 0 l2.length e ed.size))) : awpA ks X all (o :: pre) rest Q s := by
  obtain ⟨dst, op, ty, pos, after, g⟩ := o
  cases hop; cases hdst; subst hc
  obtain ⟨s1, h1, h2⟩ := r
  refine ⟨s1, .app rfl rfl hks (fun s' hb' htm => ?_) h1, h2⟩
  have e2 := opd_agree (o := ⟨some d, .call ⟨.builtin .append, #[x, y], #[t, t]⟩, ty, pos, after, g⟩) (all := all) (y := y) (by simp [Op.operands, Call.operands]) htm
  have := e_appnil (z := z) X.ok ((gd_agree htm).trans hg) hd ht hds he hK ((opd_agree (by simp [Op.operands, Call.operands]) htm).trans hx) (by rw [e2]; exact hy s' hb') hz hb
  rwa [new_new] at this
theorem goAp {G : Prop} {ops : List Oper} (k : G) (h : G → awpA ks X all ops rest Q s := by
  first
  | exact Go.Vw.stepAQ true Go.Vw.tt Go.Vw.stt rfl rfl rfl Go.Vw.sc rfl rfl rfl
  | exact Go.Vw.awpA_nil
  | exact Go.Vw.stepAQ false Go.Vw.tt Go.Vw.stt rfl rfl rfl Go.Vw.sc rfl rfl rfl
  | exact Go.Vw.stepALit Go.Vw.tt rfl rfl rfl rfl
  | exact Go.Vw.stepAApp Go.Vw.tt rfl rfl rfl rfl rfl rfl rfl rfl rfl rfl rfl rfl rfl Go.Vw.sc Go.Vw.srcB Go.Vw.sc
  | exact Go.Vw.stepAAppNil Go.Vw.tt rfl rfl rfl rfl rfl rfl rfl rfl rfl rfl rfl rfl Go.Vw.srcB Go.Vw.sc
  | fail) : awpA ks X all ops rest Q s := h k
theorem awp_regA (id n : Nat) (ks : List Nat) {ops : List Oper} (h : awpA ks X ops.toArray (ops.take n) (ops.drop n) Q (s.kills ks)) (hm : X.P.follows .mixedOrders = true) (hok : ordA ops.toArray n = true) (hK : (ks.all fun k => !(X.K.contains k)) = true) (hdf : s.dfs = []) : awp X (.region id ops.toArray true) Q s := by
  obtain ⟨s1, h1, h2⟩ := h
  exact awp_region_app hm n ks hok hK hdf h1 h2
end

theorem drt_toV {io : Keys} {F : Nat → Prop} {w : World} {g : Nat → Option Value} : ∀ {ds : List D} {off : Nat}, DRT F w g off ds → VRT io F w g off (ds.map V.d)
  | [], _, _ => by simp only [List.map_nil, VRT]
  | d :: ds, off, h => by
    simp only [DRT] at h
    simp only [List.map_cons, VRT, VR]
    exact ⟨h.1, drt_toV h.2⟩
theorem RetB.toRet {P : Program} {f : FuncId} {ds : List D} {bs' : List (Nat × Blk)} {y : V} (h : RetB P f (ds.map V.d) (lookB []) y (lookB bs')) (m : Bool) {C : Prop} {d : D} (ha : V.asD m (St.of [] bs') y = some (C, d)) (hC : C) : Ret P f ds (· = d) := by
  refine ⟨h.enters, fun F w vs hF hl hv => ?_⟩
  have hno : ∀ io b, ¬ OwnA (lookB []) io b := fun io b ⟨k, hk, _⟩ => hk rfl
  refine (h.run (fun _ => none) F w vs hF (by simpa using hl) (drt_toV hv) ⟨fun k b hk => (by cases hk), fun k k' b e1 => absurd rfl e1⟩).mono fun e w' ⟨v, io', F', he, g1, g2, g3, g4, g5, g6⟩ => ?_
  have hkeys : (St.of [] bs').keys io' = ⟨io', lnO (lookB bs')⟩ := by
    show (⟨io', (St.of [] bs').ln⟩ : Keys) = _
    rw [lnO_eq]; rfl
  have hb : ∀ k b, (St.of [] bs').blk k = some b → BR (OwnA (lookB []) fun _ => none) w.heap.size ((St.of [] bs').keys io') F' w' k b := fun k b hk => by
    rw [hkeys]; exact g6.br k b hk
  refine ⟨v, d, Lent (St.of [] bs') io' F', he, rfl, ⟨g1.os, g1.tape, g1.output, g1.size, fun b hb => g1.block b hb (hno _ b)⟩, fun b hb => .inl (g2 b hb), fun b hb' => ?_, asD_sound hb y v ha hC (by rw [hkeys]; exact g5)⟩
  rcases hb' with h1 | ⟨k, hk, e1⟩
  · obtain ⟨h2, h3⟩ := g3 b h1
    rcases h3 with h3 | h3 | h3
    · exact .inl h3
    · exact .inr ⟨h3, h2⟩
    · exact absurd h3 (hno _ b)
  · obtain ⟨b0, hb0⟩ := Option.ne_none_iff_exists'.1 hk
    obtain ⟨_, h2, h3⟩ := (hb k b0 hb0).notF e1
    rcases h2 with h2 | h2
    · exact absurd h2 (hno _ b)
    · exact .inr ⟨h2, h3⟩
end Go.Vw

/-
  Quantiles split a list. Conditions: as each says.
-/
namespace Go.Vw
end Go.Vw

/-
  The sum of distances is least at the medians. Conditions: as each says.
-/
namespace Go.Vw
theorem between {a b c : Rat} (h : a ≤ b) (h0 : 0 ≤ c) (h1 : c ≤ 1) : a ≤ c * a + (1 - c) * b ∧ c * a + (1 - c) * b ≤ b := by
  have e1 := Rat.mul_nonneg (show 0 ≤ 1 - c by grind) (show 0 ≤ b - a by grind)
  have e2 := Rat.mul_nonneg h0 (show 0 ≤ b - a by grind)
  constructor <;> grind
end Go.Vw

/-
  Means, pairs and differences of lists of rational numbers. Conditions: as each says.
-/
namespace Go.Vw
theorem takeQ_ok {k : Nat} {l : List Rat} (h : ∀ q ∈ l, okQ k q) (i : Nat) : ∀ q ∈ l.take i, okQ k q := fun q hq => h q (List.mem_of_mem_take hq)
end Go.Vw

/-
  Sorting by insertion into a list that is made anew. Conditions: as each says.
-/
namespace Go.Vw
def posQ (x : Rat) : List Rat → Nat
  | [] => 0
  | y :: s => if x < y then 0 else posQ x s + 1
theorem posQ_le (x : Rat) : ∀ s : List Rat, posQ x s ≤ s.length
  | [] => Nat.le_refl _
  | y :: s => by
    unfold posQ
    split
    · exact Nat.zero_le _
    · have := posQ_le x s
      rw [List.length_cons]
      omega
theorem posQ_drop (x : Rat) {s : List Rat} {a : Nat} (h : a < s.length) : posQ x (s.drop a) = if x < s.getD a 0 then 0 else posQ x (s.drop (a + 1)) + 1 := by
  rw [List.drop_eq_getElem_cons h, List.getD_eq_getElem?_getD, List.getElem?_eq_getElem h, Option.getD_some]
  rfl
theorem posQ_end (x : Rat) {s : List Rat} {a : Nat} (h : ¬ a < s.length) : posQ x (s.drop a) = 0 := by
  rw [List.drop_eq_nil_of_le (by omega)]
  rfl
def insQ (x : Rat) (s : List Rat) : List Rat := s.take (posQ x s) ++ [x] ++ s.drop (posQ x s)
theorem insQ_cons (x y : Rat) (s : List Rat) : insQ x (y :: s) = if x < y then x :: y :: s else y :: insQ x s := by
  unfold insQ
  rw [posQ]
  split
  · simp
  · simp
theorem insQ_perm (x : Rat) (s : List Rat) : (insQ x s).Perm (x :: s) := by
  unfold insQ
  have h : (s.take (posQ x s) ++ s.drop (posQ x s)) = s := List.take_append_drop ..
  rw [List.append_assoc, List.singleton_append]
  refine List.perm_middle.trans ?_
  rw [h]
theorem insQ_asc (x : Rat) : ∀ {s : List Rat}, AscQ s → AscQ (insQ x s)
  | [], _ => by simp [insQ, posQ, AscQ]
  | y :: s, h => by
    rw [insQ_cons]
    have hy := List.pairwise_cons.1 h
    split
    · rename_i hlt
      refine List.pairwise_cons.2 ⟨fun z hz => ?_, h⟩
      rcases List.mem_cons.1 hz with rfl | hz
      · exact Rat.le_of_lt hlt
      · exact Rat.le_trans (Rat.le_of_lt hlt) (hy.1 z hz)
    · rename_i hlt
      refine List.pairwise_cons.2 ⟨fun z hz => ?_, insQ_asc x hy.2⟩
      rcases List.mem_cons.1 ((insQ_perm x s).subset hz) with rfl | hz
      · exact Rat.not_lt.1 hlt
      · exact hy.1 z hz
theorem ins_srt {l : List Rat} {i : Nat} (h : i < l.length) : insQ (l.getD i 0) (srt (l.take i)) = srt (l.take (i + 1)) := by
  refine srt_unique (insQ_asc _ (srt_asc _)) ((insQ_perm _ _).trans ?_)
  rw [List.take_add_one, List.getElem?_eq_getElem h, List.getD_eq_getElem?_getD, List.getElem?_eq_getElem h]
  simp only [Option.toList_some, Option.getD_some]
  exact ((srt_perm (l.take i)).cons _).trans (List.perm_append_singleton ..).symm
theorem gRv {vs : List R3} {i : Nat} (h : i < vs.length) : (vs.map rv).getD i 0 = rv (vs.getD i r0) := by
  simp [List.getD_eq_getElem?_getD, h]
theorem gMem {vs : List R3} {i : Nat} {p : R3 → Prop} (h : ∀ r ∈ vs, p r) (hi : i < vs.length) : p (vs.getD i r0) := by
  have e : vs.getD i r0 = vs[i] := by simp [List.getD_eq_getElem?_getD, hi]
  rw [e]; exact h _ (List.getElem_mem hi)
end Go.Vw

set_option maxHeartbeats 8000000
namespace Go.Proofs.YtejigedigmagdaaGreat
open Go.Vw
attribute [local irreducible] awp awpL awpR

abbrev qB (l : List Rat) : Blk := .data 27 3 qC 0 l
abbrev qO (n : Nat) : V := .own 500 0 n 27 3
theorem ownEq {k o n n' : Nat} {ty : TypeId} {sz : Nat} (h : n = n') : V.own k o n ty sz = V.own k o n' ty sz := by rw [h]
theorem qdEq {l l' : List Rat} (h : l = l') : V.d (.sl 3 qC 0 l) = V.d (qsD l') := by rw [h]
theorem srt_nil : srt [] = [] := by simp [srt]
theorem order_SortB (l : List R3) (hn : l.length ≤ 12) (hl : ∀ r ∈ l, RatOk r 1000) : RetB Tryz.prog 132 [.d (rsD l)] (lookB []) (qO l.length) (lookB [(500, qB (srt (l.map rv)))]) := by
  have hq : ∀ q ∈ l.map rv, okQ 1000 q := fun q hq => by
    obtain ⟨r, hr, rfl⟩ := List.mem_map.1 hq
    exact okQ_rv (hl r hr) (by decide)
  have h0 := slices_SortFunc (l.map rv) (by rw [List.length_map]; exact hn) hq
  rw [List.length_map] at h0
  have h : RetB Tryz.prog 172 [.own 500 0 l.length 27 3, .fn 109 []] (lookB [(500, .data 27 3 qC 0 (l.map rv))]) (.tup []) (lookB [(500, .data 27 3 qC 0 (srt (l.map rv)))]) := h0.ren [(1000, 500)]
  have hs : (srt (l.map rv)).length = l.length := by rw [srt_len, List.length_map]
  clear h0 hq
  refine retB_of_awp tab [] Tryz.func132 rfl rfl rfl (Nat.le_of_ble_eq_true rfl) rfl trivial (fun w0 F0 A io0 => ?_)
  repeat' (first | refine wG ?_ | refine wS ?_ ?_ <;> intro _ | refine wB ?_ ?_)
  refine awp_adopt 3 500 27 3 qC 0 rfl ?_
  refine awp_loop1 (fun (i : Nat) => ([(3, .own 500 0 ((l.map rv).take i).length 27 3), (6, .d (rsD l)), (7, .d (.int .i64 l.length)), (8, .d (.int .i64 i))], [(500, .data 27 3 qC 0 ((l.map rv).take i))])) (fun i => i ≤ l.length) (fun i => l.length - i) 0 (by omega) ⟨rfl, rfl, rfl, rfl, rfl⟩ ⟨rfl, trivial⟩ (fun i hi => ?_)
  have hlen : ((l.map rv).take i).length = i := by simp; omega
  by_cases h3 : i < l.length
  · have g1 : l.getD i r0 ∈ l := by rw [List.getD, List.getElem?_eq_getElem h3]; exact List.getElem_mem h3
    have ha := rational_Add (l.getD i r0) r0 ((hl _ g1).up (by decide)) (ok_r0 (by decide))
    rw [rv_r0, Rat.add_zero] at ha
    have e : (l.map rv).take i ++ [rv (l.getD i r0)] = (l.map rv).take (i + 1) := by
      rw [List.take_add_one]
      simp [h3, List.getD, List.getElem?_eq_getElem h3]
    clear h hs
    repeat' (first | refine wG ?_ | refine wC ha ?_ | refine wS ?_ ?_ <;> intro _ | refine wB ?_ ?_)
    exact ⟨i + 1, by omega, by omega, ⟨by rw [← e]; rfl, rfl, rfl, iv (by omega), rfl⟩, by rw [← e]; rfl, trivial⟩
  · have e : (l.map rv).take i = l.map rv := List.take_of_length_le (by rw [List.length_map]; omega)
    rw [e] at hlen ⊢
    rw [List.length_map]
    generalize srt (l.map rv) = s at *
    repeat' (first | refine wG ?_ | refine wD [] h ?_ | refine wS ?_ ?_ <;> intro _ | refine wB ?_ ?_)
    all_goals first | exact leVT | exact ⟨rfl, trivial⟩
theorem ref16_SortB (l : List R3) (hn : l.length ≤ 200) (hl : ∀ r ∈ l, RatOk r 1000) : RetB Tryz.prog 20 [.d (rsD l)] (lookB []) (qO l.length) (lookB [(500, qB (srt (l.map rv)))]) := by
  have hq : ∀ q ∈ l.map rv, okQ 1000 q := fun q hq => by
    obtain ⟨r, hr, rfl⟩ := List.mem_map.1 hq
    exact okQ_rv (hl r hr) (by decide)
  refine retB_of_awp tab [] Tryz.func20 rfl rfl rfl (Nat.le_of_ble_eq_true rfl) rfl trivial (fun w0 F0 A io0 => ?_)
  repeat' (first | refine wG ?_ | refine rg 6 13 ?_ | refine rg 8 14 ?_ | refine wS ?_ ?_ <;> intro _ | refine wB ?_ ?_)
  refine awp_adopt 3 500 27 3 qC 0 rfl ?_
  refine awp_loop1 (fun (i : Nat) => ([(0, .d (rsD l)), (3, qO i), (4, .d (.int .i64 i))], [(500, qB (srt ((l.map rv).take i)))])) (fun i => i ≤ l.length) (fun i => l.length - i) 0 (by omega) ⟨rfl, rfl, rfl, rfl⟩ ⟨blkEq (by rw [List.take_zero, srt_nil]), trivial⟩ (fun i hi => ?_)
  have hlen := srt_len ((l.map rv).take i)
  rw [List.length_take, List.length_map, show min i l.length = i by omega] at hlen
  by_cases h3 : i < l.length
  · have g1 := gMem hl h3
    have ho := srt_ok (takeQ_ok hq i)
    have hins := ins_srt (l := l.map rv) (i := i) (by rw [List.length_map]; exact h3)
    rw [gRv h3] at hins
    generalize srt ((l.map rv).take i) = s at *
    obtain ⟨s2, hs2⟩ : ∃ s2, srt ((l.map rv).take (i + 1)) = s2 := ⟨_, rfl⟩
    rw [hs2] at hins
    obtain ⟨p, hp⟩ : ∃ p, posQ (rv (l.getD i r0)) s = p := ⟨_, rfl⟩
    have hp2 := posQ_le (rv (l.getD i r0)) s
    unfold insQ at hins
    rw [hp] at hp2 hins
    repeat' (first | refine stopA 6 tt ?_ | refine wG ?_ | refine rg 6 13 ?_ | refine rg 8 14 ?_ | refine wS ?_ ?_ <;> intro _ | refine wB ?_ ?_)
    refine stopOut ?_
    refine awp_meet1 (fun (_ : Unit) => ([(0, .d (rsD l)), (3, qO i), (4, .d (.int .i64 i)), (5, .d (.int .i64 p))], [(500, qB s)])) (fun _ => True) (fun _ _ => ?_) ?_
    rotate_left
    · repeat' (first | refine wG ?_ | refine rg 6 13 ?_ | refine rg 8 14 ?_ | refine wS ?_ ?_ <;> intro _ | refine wB ?_ ?_)
      refine awp_loop1 (fun (a : Nat) => ([(0, .d (rsD l)), (3, qO i), (4, .d (.int .i64 i)), (5, .d (.int .i64 a))], [(500, qB s)])) (fun a => a ≤ i ∧ posQ (rv (l.getD i r0)) (s.drop a) + a = p) (fun a => i - a) 0 ⟨by omega, hp⟩ ⟨rfl, rfl, rfl, rfl, rfl⟩ ⟨rfl, trivial⟩ (fun a ha => ?_)
      obtain ⟨a1, a2⟩ := ha
      by_cases c1 : a < i
      · have lt := ref03_Less (l.getD i r0) (rq (s.getD a 0)) (g1.up (by decide)) (ok_rq ((getD_ok ho (by omega)).mono (by decide)))
        rw [rv_rq] at lt
        rw [posQ_drop _ (show a < s.length by omega)] at a2
        by_cases g : rv (l.getD i r0) < s.getD a 0
        · rw [if_pos g, Nat.zero_add] at a2
          rw [decide_eq_true g] at lt
          subst a2
          repeat' (first | refine wG ?_ | refine wC lt ?_ | refine rg 6 13 ?_ | refine rg 8 14 ?_ | refine wS ?_ ?_ <;> intro _ | refine wB ?_ ?_)
          exact ⟨(), trivial, ⟨rfl, rfl, rfl, rfl, rfl⟩, rfl, trivial⟩
        · rw [if_neg g] at a2
          rw [decide_eq_false g] at lt
          repeat' (first | refine wG ?_ | refine wC lt ?_ | refine rg 6 13 ?_ | refine rg 8 14 ?_ | refine wS ?_ ?_ <;> intro _ | refine wB ?_ ?_)
          exact ⟨a + 1, ⟨by omega, by omega⟩, by omega, ⟨rfl, rfl, rfl, iv (by omega), rfl⟩, rfl, trivial⟩
      · rw [posQ_end _ (show ¬ a < s.length by omega), Nat.zero_add] at a2
        subst a2
        repeat' (first | refine wG ?_ | refine rg 6 13 ?_ | refine rg 8 14 ?_ | refine wS ?_ ?_ <;> intro _ | refine wB ?_ ?_)
        exact ⟨(), trivial, ⟨rfl, rfl, rfl, rfl, rfl⟩, rfl, trivial⟩
    clear hp
    have tk := ref03_Take (l.getD i r0) (g1.up (by decide))
    have ecut : cut 0 i s = s := by rw [← hlen]; exact cut_all s
    refine awp_frz 500 rfl ?_
    refine awp_slots [(0, .d (rsD l)), (3, .d (qsD s)), (4, .d (.int .i64 i)), (5, .d (.int .i64 p))] [] ⟨rfl, qdEq ecut, rfl, rfl, rfl⟩ trivial ?_
    repeat' (first | refine stopA 4 tt ?_ | refine wG ?_ | refine wC tk ?_ | refine awp_regA 8 14 [33] ?_ mixed (by kernel_rfl) rfl rfl | (show awpA _ _ _ _ _ _ _; first | refine goAp ?_ | refine clA 67 tt rfl rfl rfl (hr := tk) (k := ?_)) | refine rg 6 13 ?_ | refine rg 8 14 ?_ | refine wS ?_ ?_ <;> intro _ | refine wB ?_ ?_)
    refine stopOut ?_
    refine awp_rename [(0, .d (rsD l)), (3, .own 33 0 (i + 1) 27 3), (4, .d (.int .i64 i))] [(33, qB s2)] [(33, 500)] ⟨rfl, ownEq (by simp <;> omega), rfl, rfl⟩ ⟨blkEq (by rw [← hins]), trivial⟩ ?_
    repeat' (first | refine wG ?_ | refine rg 6 13 ?_ | refine rg 8 14 ?_ | refine wS ?_ ?_ <;> intro _ | refine wB ?_ ?_)
    exact ⟨i + 1, by omega, by omega, ⟨rfl, rfl, iv (by omega), rfl⟩, blkEq hs2.symm, trivial⟩
  · have e : (l.map rv).take i = l.map rv := List.take_of_length_le (by rw [List.length_map]; omega)
    have hi' : i = l.length := by omega
    subst hi'
    rw [e] at hlen ⊢
    repeat' (first | refine wG ?_ | refine rg 6 13 ?_ | refine rg 8 14 ?_ | refine wS ?_ ?_ <;> intro _ | refine wB ?_ ?_)
    all_goals first | exact leVT | exact ⟨rfl, trivial⟩

theorem ref16_Sort (l : List R3) (hn : l.length ≤ 200) (hl : ∀ r ∈ l, RatOk r 1000) : Ret Tryz.prog 20 [rsD l] (· = qsD (srt (l.map rv))) :=
  (ref16_SortB l hn hl).toRet (ds := [rsD l]) true rfl (by rw [srt_len, List.length_map])
end Go.Proofs.YtejigedigmagdaaGreat

/-
  Polynomials as lists of coefficients: trimming, sums, products, values. Conditions: as each says.
-/
namespace Go.Vw
def cf (p : List Rat) (i : Nat) : Rat := p.getD i 0
@[simp] theorem cf_nil (i : Nat) : cf [] i = 0 := rfl
@[simp] theorem cf_zero (a : Rat) (p : List Rat) : cf (a :: p) 0 = a := rfl
@[simp] theorem cf_succ (a : Rat) (p : List Rat) (i : Nat) : cf (a :: p) (i + 1) = cf p i := rfl
theorem cf_ge {p : List Rat} {i : Nat} (h : p.length ≤ i) : cf p i = 0 := by simp [cf, List.getD_eq_getElem?_getD, h]
theorem cf_eq {p : List Rat} {i : Nat} (h : i < p.length) : cf p i = p[i] := by simp [cf, List.getD_eq_getElem?_getD, h]
theorem cf_take {p : List Rat} {i n : Nat} : cf (p.take n) i = if i < n then cf p i else 0 := by
  unfold cf
  rw [List.getD_eq_getElem?_getD, List.getD_eq_getElem?_getD, List.getElem?_take]
  split <;> rfl
def Eqv (p q : List Rat) : Prop := ∀ i, cf p i = cf q i
theorem Eqv.refl (p : List Rat) : Eqv p p := fun _ => rfl
theorem Eqv.symm {p q : List Rat} (h : Eqv p q) : Eqv q p := fun i => (h i).symm
theorem Eqv.trans {p q r : List Rat} (h : Eqv p q) (k : Eqv q r) : Eqv p r := fun i => (h i).trans (k i)
def trimP : List Rat → List Rat
  | [] => []
  | a :: p => match trimP p with
    | [] => if a = 0 then [] else [a]
    | b :: q => a :: b :: q
theorem cf_trim : ∀ (p : List Rat) (i : Nat), cf (trimP p) i = cf p i
  | [], i => rfl
  | a :: p, i => by
    have ih := cf_trim p
    unfold trimP
    split
    · rename_i h
      rw [h] at ih
      split
      · rename_i ha
        subst ha
        cases i with
        | zero => rfl
        | succ i => rw [cf_succ, ← ih]; rfl
      · cases i with
        | zero => rfl
        | succ i => rw [cf_succ, cf_succ, ← ih]
    · rename_i b q h
      rw [h] at ih
      cases i with
      | zero => rfl
      | succ i => rw [cf_succ, cf_succ]; exact ih i
theorem trim_eqv (p : List Rat) : Eqv (trimP p) p := cf_trim p
def Tr (p : List Rat) : Prop := p ≠ [] → cf p (p.length - 1) ≠ 0
theorem Tr.nil : Tr [] := fun h => absurd rfl h
theorem tr_trim : ∀ (p : List Rat), Tr (trimP p)
  | [] => Tr.nil
  | a :: p => by
    have ih := tr_trim p
    unfold trimP
    split
    · split
      · exact Tr.nil
      · rename_i h; exact fun _ => h
    · rename_i b q h
      rw [h] at ih
      intro _
      have := ih (by simp)
      simpa using this
theorem Tr.cf {p : List Rat} (h : Tr p) (h0 : 0 < p.length) : cf p (p.length - 1) ≠ 0 := h (fun e => by rw [e] at h0; simp at h0)
theorem Tr.len_le {p q : List Rat} (h : Tr p) (k : ∀ i, q.length ≤ i → Vw.cf p i = 0) : p.length ≤ q.length := by
  refine Nat.le_of_not_lt fun hl => ?_
  exact h.cf (by omega) (k _ (by omega))
theorem Tr.len_lt {p : List Rat} {n : Nat} (h : Tr p) (k : ∀ i, n ≤ i → Vw.cf p i = 0) : p.length ≤ n := by
  refine Nat.le_of_not_lt fun hl => ?_
  exact h.cf (by omega) (k _ (by omega))
theorem Tr.ext {p q : List Rat} (hp : Tr p) (hq : Tr q) (h : Eqv p q) : p = q := by
  have e : p.length = q.length := Nat.le_antisymm (hp.len_le fun i hi => by rw [h i]; exact cf_ge hi) (hq.len_le fun i hi => by rw [← h i]; exact cf_ge hi)
  refine List.ext_getElem e fun i h1 h2 => ?_
  have := h i
  rwa [cf_eq h1, cf_eq h2] at this
theorem trim_ext {p q : List Rat} (h : Eqv p q) : trimP p = trimP q := (tr_trim p).ext (tr_trim q) fun i => by rw [cf_trim, cf_trim, h i]
theorem trim_of {p : List Rat} (h : Tr p) : trimP p = p := (tr_trim p).ext h (trim_eqv p)
theorem trim_trim (p : List Rat) : trimP (trimP p) = trimP p := trim_of (tr_trim p)
theorem trim_len (p : List Rat) : (trimP p).length ≤ p.length := (tr_trim p).len_le fun i hi => by rw [cf_trim]; exact cf_ge hi
theorem trim_take {p : List Rat} {n : Nat} (hn : n ≤ p.length) (h1 : ∀ i, n ≤ i → i < p.length → cf p i = 0) (h2 : 0 < n → cf p (n - 1) ≠ 0) : trimP p = p.take n := by
  refine (tr_trim p).ext (fun h => ?_) fun i => ?_
  · have hl : (p.take n).length = n := by rw [List.length_take]; omega
    have h0 : 0 < n := Nat.pos_of_ne_zero fun e => h (by subst e; simp)
    rw [hl, cf_take, if_pos (by omega)]
    exact h2 h0
  · rw [cf_trim, cf_take]
    split
    · rfl
    · by_cases hi : i < p.length
      · exact h1 i (by omega) hi
      · exact cf_ge (by omega)
theorem trim_nil_iff (p : List Rat) : trimP p = [] ↔ ∀ i, cf p i = 0 := ⟨fun h i => by rw [← cf_trim, h]; rfl, fun h => (tr_trim p).ext Tr.nil fun i => by rw [cf_trim, h i]; rfl⟩
theorem trim_mem {p : List Rat} {x : Rat} (h : x ∈ trimP p) : x ∈ p := by
  obtain ⟨i, hi, rfl⟩ := List.mem_iff_getElem.1 h
  have hl := trim_len p
  have := cf_trim p i
  rw [cf_eq hi, cf_eq (by omega)] at this
  rw [this]; exact List.getElem_mem _
/-! ## Values -/
def evalP : List Rat → Rat → Rat
  | [], _ => 0
  | a :: p, x => evalP p x * x + a
theorem eval_zero : ∀ {p : List Rat} (x : Rat), (∀ i, cf p i = 0) → evalP p x = 0
  | [], x, _ => rfl
  | a :: p, x, h => by
    have h0 := h 0
    rw [cf_zero] at h0
    rw [evalP, eval_zero x (fun i => by have := h (i + 1); rwa [cf_succ] at this), h0]
    grind
theorem eval_ext : ∀ {p q : List Rat} (x : Rat), Eqv p q → evalP p x = evalP q x
  | [], q, x, h => (eval_zero (p := q) x (fun i => (h i).symm)).symm
  | a :: p, [], x, h => eval_zero (p := a :: p) x (fun i => h i)
  | a :: p, b :: q, x, h => by
    have h0 : a = b := h 0
    have ih := eval_ext (p := p) (q := q) x (fun i => h (i + 1))
    rw [evalP, evalP, ih, h0]
theorem eval_trim (p : List Rat) (x : Rat) : evalP (trimP p) x = evalP p x := eval_ext x (trim_eqv p)
/-! ## Sums and multiples, with zeros at the end -/
def addC : List Rat → List Rat → List Rat
  | [], q => q
  | p, [] => p
  | a :: p, b :: q => (a + b) :: addC p q
def smul (c : Rat) (p : List Rat) : List Rat := p.map (c * ·)
def shiftP (k : Nat) (p : List Rat) : List Rat := List.replicate k 0 ++ p
def negC (p : List Rat) : List Rat := smul (-1) p
def subC (p q : List Rat) : List Rat := addC p (negC q)
theorem cf_add : ∀ (p q : List Rat) (i : Nat), cf (addC p q) i = cf p i + cf q i
  | [], q, i => by simp only [addC, cf_nil]; grind
  | a :: p, [], i => by simp only [addC, cf_nil]; grind
  | a :: p, b :: q, 0 => by simp [addC]
  | a :: p, b :: q, i + 1 => by simp only [addC, cf_succ]; exact cf_add p q i
theorem cf_smul (c : Rat) : ∀ (p : List Rat) (i : Nat), cf (smul c p) i = c * cf p i
  | [], i => by simp [smul, Rat.mul_zero]
  | a :: p, 0 => by simp [smul]
  | a :: p, i + 1 => by have := cf_smul c p i; simpa [smul] using this
theorem cf_neg (p : List Rat) (i : Nat) : cf (negC p) i = - cf p i := by rw [negC, cf_smul]; grind
theorem cf_sub (p q : List Rat) (i : Nat) : cf (subC p q) i = cf p i - cf q i := by rw [subC, cf_add, cf_neg]; grind
theorem cf_shift (k : Nat) (p : List Rat) (i : Nat) : cf (shiftP k p) i = if i < k then 0 else cf p (i - k) := by
  unfold cf shiftP
  rw [List.getD_eq_getElem?_getD, List.getD_eq_getElem?_getD]
  split
  · rename_i h
    rw [List.getElem?_append_left (by simpa using h)]
    simp [h]
  · rename_i h
    rw [List.getElem?_append_right (by simp; omega)]
    simp
theorem eval_add : ∀ (p q : List Rat) (x : Rat), evalP (addC p q) x = evalP p x + evalP q x
  | [], q, x => by simp only [addC, evalP]; grind
  | a :: p, [], x => by simp only [addC, evalP]; grind
  | a :: p, b :: q, x => by simp only [addC, evalP, eval_add p q x]; grind
theorem eval_smul (c : Rat) : ∀ (p : List Rat) (x : Rat), evalP (smul c p) x = c * evalP p x
  | [], x => by simp [smul, evalP, Rat.mul_zero]
  | a :: p, x => by
    have ih := eval_smul c p x
    simp only [smul, List.map_cons, evalP] at ih ⊢
    rw [ih]; grind
theorem eval_sub (p q : List Rat) (x : Rat) : evalP (subC p q) x = evalP p x - evalP q x := by rw [subC, eval_add, negC, eval_smul]; grind
/-! ## Products -/
def mulC : List Rat → List Rat → List Rat
  | [], _ => []
  | a :: p, q => addC (smul a q) (0 :: mulC p q)
theorem eval_mul : ∀ (p q : List Rat) (x : Rat), evalP (mulC p q) x = evalP p x * evalP q x
  | [], q, x => by simp only [mulC, evalP]; grind
  | a :: p, q, x => by simp only [mulC, eval_add, eval_smul, evalP, eval_mul p q x]; grind
theorem cf_mul0 (a : Rat) (p q : List Rat) : cf (mulC (a :: p) q) 0 = a * cf q 0 := by simp only [mulC, cf_add, cf_smul, cf_zero]; grind
theorem cf_mulS (a : Rat) (p q : List Rat) (i : Nat) : cf (mulC (a :: p) q) (i + 1) = a * cf q (i + 1) + cf (mulC p q) i := by simp only [mulC, cf_add, cf_smul, cf_succ]
theorem mul_zero_r : ∀ (p : List Rat) (q : List Rat), (∀ i, cf q i = 0) → ∀ i, cf (mulC p q) i = 0
  | [], q, h, i => rfl
  | a :: p, q, h, 0 => by rw [cf_mul0, h]; grind
  | a :: p, q, h, i + 1 => by rw [cf_mulS, h, mul_zero_r p q h]; grind
theorem mul_eqv_r : ∀ (p : List Rat) {q q' : List Rat}, Eqv q q' → Eqv (mulC p q) (mulC p q')
  | [], q, q', h => Eqv.refl _
  | a :: p, q, q', h => fun i => by
    cases i with
    | zero => rw [cf_mul0, cf_mul0, h]
    | succ i => rw [cf_mulS, cf_mulS, h, mul_eqv_r p h i]
theorem mul_cons_r : ∀ (p : List Rat) (b : Rat) (q : List Rat), Eqv (mulC p (b :: q)) (addC (smul b p) (0 :: mulC p q))
  | [], b, q, i => by
    rw [cf_add]
    cases i <;> simp [mulC, smul] <;> grind
  | a :: p, b, q, 0 => by simp only [cf_mul0, cf_add, cf_smul, cf_zero]; grind
  | a :: p, b, q, i + 1 => by
    have ih := mul_cons_r p b q i
    rw [cf_add, cf_smul] at ih
    rw [cf_mulS, cf_add, cf_smul, cf_succ, cf_succ, cf_succ, ih]
    cases i with
    | zero => rw [cf_mul0, cf_zero]; grind
    | succ i => rw [cf_mulS, cf_succ]; grind
theorem mul_comm_eqv : ∀ (p q : List Rat), Eqv (mulC p q) (mulC q p)
  | [], q, i => by rw [mul_zero_r q [] (fun _ => rfl)]; rfl
  | a :: p, q, i => by
    have h := mul_cons_r q a p i
    have ih := mul_comm_eqv p q
    rw [h]
    cases i with
    | zero => simp only [cf_mul0, cf_add, cf_smul, cf_zero]; grind
    | succ i => rw [cf_mulS, cf_add, cf_smul, cf_succ, ih i]
theorem mul_eqv_l {p p' : List Rat} (q : List Rat) (h : Eqv p p') : Eqv (mulC p q) (mulC p' q) := ((mul_comm_eqv p q).trans (mul_eqv_r q h)).trans (mul_comm_eqv q p')
theorem mul_add_r : ∀ (p q r : List Rat), Eqv (mulC p (addC q r)) (addC (mulC p q) (mulC p r))
  | [], q, r, i => by simp only [mulC, cf_nil, cf_add]; grind
  | a :: p, q, r, 0 => by simp only [cf_mul0, cf_add]; grind
  | a :: p, q, r, i + 1 => by rw [cf_add, cf_mulS, cf_mulS, cf_mulS, mul_add_r p q r i, cf_add, cf_add]; grind
theorem mul_add_l (p q r : List Rat) : Eqv (mulC (addC p q) r) (addC (mulC p r) (mulC q r)) := fun i => by
  rw [mul_comm_eqv, mul_add_r, cf_add, cf_add, mul_comm_eqv r p, mul_comm_eqv r q]
theorem mul_smul_l (c : Rat) : ∀ (p q : List Rat), Eqv (mulC (smul c p) q) (smul c (mulC p q))
  | [], q, i => by simp [smul, mulC]
  | a :: p, q, 0 => by simp only [smul, List.map_cons, cf_mul0]; rw [← smul, cf_smul, cf_mul0]; grind
  | a :: p, q, i + 1 => by
    have ih := mul_smul_l c p q i
    rw [cf_smul] at ih
    simp only [smul, List.map_cons] at ih ⊢
    rw [cf_mulS, ih, ← smul, cf_smul, cf_mulS]; grind
theorem mul_smul_r (c : Rat) (p q : List Rat) : Eqv (mulC p (smul c q)) (smul c (mulC p q)) := fun i => by
  rw [mul_comm_eqv, mul_smul_l, cf_smul, cf_smul, mul_comm_eqv]
theorem mul_shift_l : ∀ (k : Nat) (p q : List Rat), Eqv (mulC (shiftP k p) q) (shiftP k (mulC p q))
  | 0, p, q => fun i => by simp [shiftP]
  | k + 1, p, q => fun i => by
    have e : ∀ (p : List Rat), shiftP (k + 1) p = 0 :: shiftP k p := fun p => by simp [shiftP, List.replicate_succ]
    rw [e, e]
    cases i with
    | zero => rw [cf_mul0, cf_zero]; grind
    | succ i => rw [cf_mulS, cf_succ, mul_shift_l k p q i]; grind
theorem mul_assoc_eqv : ∀ (p q r : List Rat), Eqv (mulC (mulC p q) r) (mulC p (mulC q r))
  | [], q, r, i => rfl
  | a :: p, q, r, i => by
    have h1 : Eqv (mulC (mulC (a :: p) q) r) (addC (mulC (smul a q) r) (mulC (0 :: mulC p q) r)) := mul_add_l _ _ _
    rw [h1, cf_add, mul_smul_l, cf_smul]
    cases i with
    | zero => rw [cf_mul0, cf_mul0]; grind
    | succ i => rw [cf_mulS, cf_mulS, mul_assoc_eqv p q r i]; grind
theorem mul_const (c : Rat) (q : List Rat) : Eqv (mulC [c] q) (smul c q) := fun i => by
  simp only [mulC, cf_add, cf_smul]
  cases i <;> simp <;> grind
theorem add_eqv {p p' q q' : List Rat} (h : Eqv p p') (k : Eqv q q') : Eqv (addC p q) (addC p' q') := fun i => by rw [cf_add, cf_add, h i, k i]
theorem smul_eqv {c : Rat} {p p' : List Rat} (h : Eqv p p') : Eqv (smul c p) (smul c p') := fun i => by rw [cf_smul, cf_smul, h i]
theorem shift_eqv {k : Nat} {p p' : List Rat} (h : Eqv p p') : Eqv (shiftP k p) (shiftP k p') := fun i => by rw [cf_shift, cf_shift, h (i - k)]
/-! ## The highest coefficient of a product -/
theorem mul_high : ∀ (p q : List Rat) (m n : Nat), (∀ i, m < i → cf p i = 0) → (∀ i, n < i → cf q i = 0) → cf (mulC p q) (m + n) = cf p m * cf q n ∧ ∀ i, m + n < i → cf (mulC p q) i = 0
  | [], q, m, n, h1, h2 => by simp [mulC, Rat.zero_mul]
  | a :: p, q, 0, n, h1, h2 => by
    have hp : ∀ i, cf p i = 0 := fun i => by have := h1 (i + 1) (by omega); rwa [cf_succ] at this
    have hz : ∀ i, cf (mulC p q) i = 0 := fun i => by rw [mul_comm_eqv]; exact mul_zero_r q p hp i
    refine ⟨?_, fun i hi => ?_⟩
    · rw [Nat.zero_add]
      cases n with
      | zero => rw [cf_mul0]; rfl
      | succ n => rw [cf_mulS, hz, cf_zero]; grind
    · cases i with
      | zero => omega
      | succ i => rw [cf_mulS, hz, h2 _ (by omega)]; grind
  | a :: p, q, m + 1, n, h1, h2 => by
    obtain ⟨e1, e2⟩ := mul_high p q m n (fun i hi => by have := h1 (i + 1) (by omega); rwa [cf_succ] at this) h2
    refine ⟨?_, fun i hi => ?_⟩
    · rw [show m + 1 + n = (m + n) + 1 by omega, cf_mulS, e1, h2 _ (by omega), cf_succ]; grind
    · cases i with
      | zero => omega
      | succ i => rw [cf_mulS, e2 _ (by omega), h2 _ (by omega)]; grind
theorem mul_len {p q : List Rat} (hp : Tr p) (hq : Tr q) (p0 : 0 < p.length) (q0 : 0 < q.length) : (trimP (mulC p q)).length = p.length + q.length - 1 ∧ cf (mulC p q) (p.length + q.length - 2) = cf p (p.length - 1) * cf q (q.length - 1) := by
  obtain ⟨e1, e2⟩ := mul_high p q (p.length - 1) (q.length - 1) (fun i hi => cf_ge (by omega)) (fun i hi => cf_ge (by omega))
  have h1 := hp.cf p0
  have h2 := hq.cf q0
  rw [show p.length - 1 + (q.length - 1) = p.length + q.length - 2 by omega] at e1 e2
  have hne : cf (mulC p q) (p.length + q.length - 2) ≠ 0 := by
    rw [e1]; intro h
    rcases Rat.mul_eq_zero.1 h with h | h
    · exact h1 h
    · exact h2 h
  refine ⟨Nat.le_antisymm ((tr_trim _).len_lt fun i hi => by rw [cf_trim]; exact e2 i (by omega)) (Nat.le_of_not_lt fun hl => hne ?_), e1⟩
  rw [← cf_trim]; exact cf_ge (by omega)
end Go.Vw

/-
  Polynomials: division with remainder, the derivative, the greatest common divisor. Conditions: as each says.
-/
namespace Go.Vw
def lead (p : List Rat) : Rat := cf p (p.length - 1)
theorem lead_ne {p : List Rat} (h : Tr p) (h0 : p ≠ []) : lead p ≠ 0 := h h0
theorem len_smul (c : Rat) (p : List Rat) : (smul c p).length = p.length := by simp [smul]
theorem tr_smul {c : Rat} {p : List Rat} (hc : c ≠ 0) (h : Tr p) : Tr (smul c p) := fun h0 => by
  rw [len_smul, cf_smul]
  intro e
  rcases Rat.mul_eq_zero.1 e with e | e
  · exact hc e
  · exact h (fun e => h0 (by rw [e]; rfl)) e
theorem lead_smul (c : Rat) (p : List Rat) : lead (smul c p) = c * lead p := by unfold lead; rw [len_smul, cf_smul]
theorem smul_smul (a b : Rat) (p : List Rat) : smul a (smul b p) = smul (a * b) p := by
  unfold smul; rw [List.map_map]; refine List.map_congr_left fun x _ => ?_
  simp only [Function.comp]; grind
theorem smul_one (p : List Rat) : smul 1 p = p := by
  unfold smul
  have : (fun x : Rat => 1 * x) = id := by funext x; simp [Rat.one_mul]
  rw [this, List.map_id]
theorem smul_eq_nil {c : Rat} {p : List Rat} : smul c p = [] ↔ p = [] := by unfold smul; exact List.map_eq_nil_iff
theorem ne_len {p : List Rat} (h : p ≠ []) : 0 < p.length := List.length_pos_iff.2 h
def remK (r d : List Rat) : Nat := r.length - d.length
def remC (r d : List Rat) : Rat := lead r / lead d
def stepRP (r d : List Rat) : List Rat := trimP (subC r (shiftP (remK r d) (smul (remC r d) d)))
def stepQP (q r d : List Rat) : List Rat := trimP (addC q (shiftP (remK r d) [remC r d]))
theorem cf_stepRP (r d : List Rat) (i : Nat) : cf (stepRP r d) i = cf r i - (if i < remK r d then 0 else remC r d * cf d (i - remK r d)) := by
  unfold stepRP; rw [cf_trim, cf_sub, cf_shift]; split
  · rfl
  · rw [cf_smul]
theorem stepRP_len {r d : List Rat} (hr : Tr r) (hd : Tr d) (d0 : d ≠ []) (h : d.length ≤ r.length) : (stepRP r d).length < r.length := by
  have h0 := ne_len d0
  have := (show Tr (stepRP r d) from tr_trim _).len_lt (n := r.length - 1) fun i hi => by
    rw [cf_stepRP]
    by_cases e : i = r.length - 1
    · subst e
      rw [if_neg (by unfold remK; omega)]
      have e2 : r.length - 1 - remK r d = d.length - 1 := by unfold remK; omega
      rw [e2]
      have hl := lead_ne hd d0
      unfold remC
      unfold lead at *
      grind
    · rw [cf_ge (by omega)]
      split
      · grind
      · rw [cf_ge (p := d) (by unfold remK; omega)]; grind
  omega
theorem stepRP_mul (q r d : List Rat) : Eqv (addC (mulC (stepQP q r d) d) (stepRP r d)) (addC (mulC q d) r) := fun i => by
  have h1 := mul_eqv_l d (trim_eqv (addC q (shiftP (remK r d) [remC r d]))) i
  have h2 := mul_add_l q (shiftP (remK r d) [remC r d]) d i
  have h3 := mul_shift_l (remK r d) [remC r d] d i
  have h4 := shift_eqv (k := remK r d) (mul_const (remC r d) d) i
  rw [cf_add, cf_add, cf_stepRP]
  unfold stepQP
  rw [h1, h2, cf_add, h3, h4, cf_shift]
  split
  · grind
  · rw [cf_smul]; grind
def divL : Nat → List Rat → List Rat → List Rat → List Rat × List Rat
  | 0, q, r, d => (q, r)
  | n + 1, q, r, d => if r.length < d.length then (q, r) else divL n (stepQP q r d) (stepRP r d) d
theorem divL_spec {d : List Rat} (hd : Tr d) (d0 : d ≠ []) : ∀ (n : Nat) (q r : List Rat), Tr r → r.length < n → Tr (divL n q r d).2 ∧ (divL n q r d).2.length < d.length ∧ Eqv (addC (mulC (divL n q r d).1 d) (divL n q r d).2) (addC (mulC q d) r)
  | 0, q, r, hr, h => by omega
  | n + 1, q, r, hr, h => by
    unfold divL
    split
    · rename_i h1; exact ⟨hr, h1, Eqv.refl _⟩
    · rename_i h1
      have hl := stepRP_len hr hd d0 (by omega)
      obtain ⟨a, b, c⟩ := divL_spec hd d0 n (stepQP q r d) (stepRP r d) (tr_trim _) (by omega)
      exact ⟨a, b, c.trans (stepRP_mul q r d)⟩
theorem divL_tr {d : List Rat} : ∀ (n : Nat) (q r : List Rat), Tr q → Tr (divL n q r d).1
  | 0, q, r, h => h
  | n + 1, q, r, h => by
    unfold divL; split
    · exact h
    · exact divL_tr n _ _ (tr_trim _)
def divP (p d : List Rat) : List Rat × List Rat := divL (p.length + 1) [] p d
def remP (p d : List Rat) : List Rat := (divP p d).2
theorem divP_spec {p d : List Rat} (hp : Tr p) (hd : Tr d) (d0 : d ≠ []) : Tr (divP p d).1 ∧ Tr (divP p d).2 ∧ (divP p d).2.length < d.length ∧ Eqv (addC (mulC (divP p d).1 d) (divP p d).2) p := by
  obtain ⟨a, b, c⟩ := divL_spec hd d0 (p.length + 1) [] p hp (by omega)
  refine ⟨divL_tr _ _ _ Tr.nil, a, b, c.trans fun i => ?_⟩
  rw [cf_add]; simp only [mulC, cf_nil]; grind
theorem div_unique {q r q' r' d : List Rat} (hd : Tr d) (d0 : d ≠ []) (h1 : r.length < d.length) (h2 : r'.length < d.length) (h : Eqv (addC (mulC q d) r) (addC (mulC q' d) r')) : Eqv q q' ∧ Eqv r r' := by
  have hz : trimP (subC q q') = [] := by
    refine Classical.byContradiction fun hne => ?_
    have hl := mul_len (tr_trim (subC q q')) hd (ne_len hne) (ne_len d0)
    have l1 := ne_len hne
    have l2 := ne_len d0
    have a1 := (tr_trim (subC q q')).cf l1
    have a2 := hd.cf l2
    generalize hN : (trimP (subC q q')).length + d.length - 2 = N at hl
    have e : cf (mulC (trimP (subC q q')) d) N = 0 := by
      rw [mul_eqv_l d (trim_eqv (subC q q')) N]
      have e1 : Eqv (mulC (subC q q') d) (subC (mulC q d) (mulC q' d)) := fun i => by
        have h3 : Eqv (mulC (negC q') d) (negC (mulC q' d)) := mul_smul_l (-1) q' d
        unfold subC
        rw [mul_add_l, cf_add, cf_add, h3 i]
      rw [e1 N, cf_sub]
      have := h N
      rw [cf_add, cf_add, cf_ge (p := r) (by omega), cf_ge (p := r') (by omega)] at this
      grind
    rw [hl.2] at e
    rcases Rat.mul_eq_zero.1 e with e | e
    · exact a1 e
    · exact a2 e
  have hq : Eqv q q' := fun i => by
    have := (trim_nil_iff _).1 hz i
    rw [cf_sub] at this; grind
  refine ⟨hq, fun i => ?_⟩
  have := h i
  rw [cf_add, cf_add, mul_eqv_l d hq i] at this
  grind
theorem divP_unique {p d q r : List Rat} (hp : Tr p) (hd : Tr d) (d0 : d ≠ []) (hq : Tr q) (hr : Tr r) (hl : r.length < d.length) (h : Eqv (addC (mulC q d) r) p) : divP p d = (q, r) := by
  obtain ⟨a, b, c, e⟩ := divP_spec hp hd d0
  obtain ⟨h1, h2⟩ := div_unique hd d0 c hl (e.trans h.symm)
  exact Prod.ext (a.ext hq h1) (b.ext hr h2)
/-! ## Multiples -/
theorem remP_smul {p d : List Rat} (hp : Tr p) (hd : Tr d) (d0 : d ≠ []) {a b : Rat} (ha : a ≠ 0) (hb : b ≠ 0) : remP (smul a p) (smul b d) = smul a (remP p d) := by
  obtain ⟨h1, h2, h3, h4⟩ := divP_spec hp hd d0
  have hab : a / b ≠ 0 := by
    intro h
    have : a = a / b * b := by grind
    rw [h] at this; grind
  have := divP_unique (p := smul a p) (d := smul b d) (q := smul (a / b) (divP p d).1) (r := smul a (divP p d).2) (tr_smul ha hp) (tr_smul hb hd) (by rw [ne_eq, smul_eq_nil]; exact d0) (tr_smul hab h1) (tr_smul ha h2) (by rw [len_smul, len_smul]; exact h3) (fun i => by
    rw [cf_add, mul_smul_l, cf_smul, mul_smul_r, cf_smul, cf_smul, cf_smul, ← h4 i, cf_add]
    grind)
  unfold remP
  rw [this]
def monicP (p : List Rat) : List Rat := smul (1 / lead p) p
theorem monic_smul {c : Rat} {p : List Rat} (hc : c ≠ 0) : monicP (smul c p) = monicP p := by
  unfold monicP
  rw [lead_smul, smul_smul]
  congr 1
  grind
theorem monic_nil : monicP [] = [] := rfl
theorem tr_monic {p : List Rat} (h : Tr p) : Tr (monicP p) := by
  by_cases h0 : p = []
  · subst h0; exact Tr.nil
  · have := lead_ne h h0
    exact tr_smul (by grind) h
theorem lead_monic {p : List Rat} (h : Tr p) (h0 : p ≠ []) : lead (monicP p) = 1 := by
  have := lead_ne h h0
  unfold monicP; rw [lead_smul]; grind
def gcdL : Nat → List Rat → List Rat → List Rat
  | 0, p, _ => monicP p
  | n + 1, p, q => if q = [] then monicP p else gcdL n q (remP p q)
theorem tr_rem {p d : List Rat} (hp : Tr p) (hd : Tr d) (d0 : d ≠ []) : Tr (remP p d) := (divP_spec hp hd d0).2.1
theorem rem_len {p d : List Rat} (hp : Tr p) (hd : Tr d) (d0 : d ≠ []) : (remP p d).length < d.length := (divP_spec hp hd d0).2.2.1
theorem gcdL_smul : ∀ (n : Nat) {p q : List Rat} {a b : Rat}, Tr p → Tr q → a ≠ 0 → b ≠ 0 → gcdL n (smul a p) (smul b q) = gcdL n p q
  | 0, p, q, a, b, hp, hq, ha, hb => monic_smul ha
  | n + 1, p, q, a, b, hp, hq, ha, hb => by
    unfold gcdL
    by_cases h : q = []
    · rw [if_pos h, if_pos (smul_eq_nil.2 h), monic_smul ha]
    · rw [if_neg h, if_neg (mt smul_eq_nil.1 h), remP_smul hp hq h ha hb]
      exact gcdL_smul n hq (tr_rem hp hq h) hb ha
theorem gcdL_fuel : ∀ (n m : Nat) {p q : List Rat}, Tr p → Tr q → q.length ≤ n → q.length ≤ m → gcdL n p q = gcdL m p q
  | 0, 0, p, q, _, _, _, _ => rfl
  | 0, m + 1, p, q, _, _, h, _ => by
    have : q = [] := List.eq_nil_of_length_eq_zero (by omega)
    unfold gcdL; rw [if_pos this]
  | n + 1, 0, p, q, _, _, _, h => by
    have : q = [] := List.eq_nil_of_length_eq_zero (by omega)
    unfold gcdL; rw [if_pos this]
  | n + 1, m + 1, p, q, hp, hq, h1, h2 => by
    unfold gcdL
    by_cases h : q = []
    · rw [if_pos h, if_pos h]
    · rw [if_neg h, if_neg h]
      have := rem_len hp hq h
      exact gcdL_fuel n m hq (tr_rem hp hq h) (by omega) (by omega)
def gcdP (p q : List Rat) : List Rat := gcdL q.length p q
theorem gcdP_nil (p : List Rat) : gcdP p [] = monicP p := rfl
theorem gcdP_step {p q : List Rat} (hp : Tr p) (hq : Tr q) (h : q ≠ []) {a b : Rat} (ha : a ≠ 0) (hb : b ≠ 0) : gcdP p q = gcdP (smul a q) (smul b (remP p q)) := by
  unfold gcdP
  rw [len_smul, gcdL_smul _ hq (tr_rem hp hq h) ha hb]
  obtain ⟨n, hn⟩ : ∃ n, q.length = n + 1 := ⟨q.length - 1, by have := ne_len h; omega⟩
  rw [hn]
  conv => lhs; unfold gcdL
  rw [if_neg h]
  have := rem_len hp hq h
  exact gcdL_fuel _ _ hq (tr_rem hp hq h) (by omega) (by omega)
/-! ## The derivative -/
def derC (p : List Rat) : List Rat := (p.mapIdx fun i x => (i : Rat) * x).drop 1
theorem cf_der (p : List Rat) (i : Nat) : cf (derC p) i = ((i + 1 : Nat) : Rat) * cf p (i + 1) := by
  unfold derC cf
  rw [List.getD_eq_getElem?_getD, List.getD_eq_getElem?_getD, List.getElem?_drop, List.getElem?_mapIdx, Nat.add_comm 1 i]
  cases p[i + 1]? with
  | none => simp [Rat.mul_zero]
  | some x => rfl
def derP (p : List Rat) : List Rat := trimP (derC p)
theorem derC_len (p : List Rat) : (derC p).length = p.length - 1 := by simp [derC]
/-! ## Sturm's chain -/
def chainL (ch : List Rat → List Rat) : Nat → List Rat → List Rat → List (List Rat)
  | 0, _, _ => []
  | n + 1, a, b => if a = [] then [] else if b = [] then [a] else a :: chainL ch n b (ch (negC (remP a b)))
theorem tr_neg {p : List Rat} (h : Tr p) : Tr (negC p) := tr_smul (by decide) h
end Go.Vw
