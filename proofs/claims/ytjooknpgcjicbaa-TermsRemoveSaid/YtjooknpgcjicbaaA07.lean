/-
  Contracts of functions of the program, and the layer that they are walked with: NatsE NatsF NatsG Itv VY FmL TmD TmE G06 G07 VPe VPm VUj G10 F01 F06 F02 F17 G11. Conditions: as each says.
-/
import Derived.Laws.StructEq
import Derived.Stop.IfaceNil
import Derived.KernelRfl
import Derived.Test.YtjooknpgcjicbaaA06
set_option linter.unnecessarySimpa false
/-
  Long division of lists of limbs: one digit, and the end. Conditions: as each says.
-/
set_option linter.unusedVariables false
set_option linter.unusedSimpArgs false
namespace Go.Vw
theorem mid_drop {U w : List Nat} {j : Nat} (h : j ≤ U.length) : (mid U j w).drop j = w ++ U.drop (j + w.length) := by
  unfold mid
  rw [List.append_assoc, List.drop_append_of_le_length (by simp; omega), List.drop_eq_nil_of_le (by simp; omega), List.nil_append]
theorem val_mid {U w : List Nat} {j : Nat} (h : j + w.length ≤ U.length) : val (mid U j w) + B ^ j * val ((U.drop j).take w.length) = val U + B ^ j * val w := by
  have h1 : val U = val (U.take j) + B ^ j * val (U.drop j) := by
    conv => lhs; rw [← List.take_append_drop j U, val_append]
    rw [List.length_take, Nat.min_eq_left (by omega)]
  have h2 : val (U.drop j) = val ((U.drop j).take w.length) + B ^ w.length * val (U.drop (j + w.length)) := by
    conv => lhs; rw [← List.take_append_drop w.length (U.drop j), val_append]
    rw [List.length_take, List.drop_drop, Nat.min_eq_left (by simp; omega)]
  unfold mid
  rw [List.append_assoc, val_append, val_append, List.length_take, Nat.min_eq_left (by omega), h1, h2, Nat.mul_add, Nat.mul_add]
  omega
theorem win_all {U : List Nat} {j n V : Nat} (hU : WF U) (hj : j + n + 1 ≤ U.length) (hV : V < B ^ n) (hlt : val (U.drop (j + 1)) < V) : val ((U.drop j).take (n + 1)) = val (U.drop j) ∧ val (U.drop (j + n + 1)) = 0 ∧ val (U.drop j) < V * B := by
  have h1 : val (U.drop (j + 1)) = val ((U.drop (j + 1)).take n) + B ^ n * val (U.drop (j + n + 1)) := by
    conv => lhs; rw [← List.take_append_drop n (U.drop (j + 1)), val_append]
    rw [List.length_take, List.drop_drop, Nat.min_eq_left (by simp; omega), show j + 1 + n = j + n + 1 by omega]
  have h0 : val (U.drop (j + n + 1)) = 0 := by
    rcases Nat.eq_zero_or_pos (val (U.drop (j + n + 1))) with h | h
    · exact h
    · have := Nat.mul_le_mul_left (B ^ n) h
      omega
  have h2 : val (U.drop j) = val ((U.drop j).take (n + 1)) + B ^ (n + 1) * val (U.drop (j + n + 1)) := by
    conv => lhs; rw [← List.take_append_drop (n + 1) (U.drop j), val_append]
    rw [List.length_take, List.drop_drop, Nat.min_eq_left (by simp; omega), show j + (n + 1) = j + n + 1 by omega]
  rw [h0, Nat.mul_zero, Nat.add_zero] at h2
  refine ⟨h2.symm, h0, ?_⟩
  rw [val_drop U j (by omega)]
  have h3 := hU.getD j
  have h4 := Nat.mul_le_mul_left B (show val (U.drop (j + 1)) + 1 ≤ V from hlt)
  rw [Nat.mul_comm V B]
  rw [Nat.mul_add] at h4
  omega
structure DivInv (A V : Nat) (n : Nat) (U Q : List Nat) (j : Nat) : Prop where
  wU : WF U
  wQ : WF Q
  eq : A = val (Q.drop j) * (B ^ j * V) + val U
  lt : val (U.drop j) < V
theorem DivInv.step {A V n j : Nat} {U Q : List Nat} (h : DivInv A V n U Q (j + 1)) (hV : V < B ^ n) (hV0 : 0 < V) (hj : j + n + 1 ≤ U.length) (hQ : j < Q.length) : val ((U.drop j).take (n + 1)) < V * B ∧ val ((U.drop j).take (n + 1)) / V < B ∧ DivInv A V n (mid U j (padL (n + 1) (val ((U.drop j).take (n + 1)) % V))) (Q.set j (val ((U.drop j).take (n + 1)) / V)) j := by
  obtain ⟨w1, w2, w3⟩ := win_all h.wU hj hV h.lt
  rw [w1]
  have hq : val (U.drop j) / V < B := by rw [Nat.div_lt_iff_lt_mul hV0, Nat.mul_comm]; exact w3
  refine ⟨w3, hq, mid_wf h.wU (padL_wf _ _), h.wQ.set _ hq, ?_, ?_⟩
  · have hm := val_mid (U := U) (j := j) (w := padL (n + 1) (val (U.drop j) % V)) (by rw [padL_len]; omega)
    have hr : val (U.drop j) % V < B ^ (n + 1) := by
      have := Nat.mod_lt (val (U.drop j)) hV0
      have h2 : B ^ n ≤ B ^ (n + 1) := Nat.pow_le_pow_right (by decide) (by omega)
      exact Nat.lt_of_lt_of_le (Nat.lt_trans this hV) h2
    rw [padL_len, padL_val, Nat.mod_eq_of_lt hr, w1] at hm
    have hd := val_drop (Q.set j (val (U.drop j) / V)) j (by simpa using hQ)
    rw [show (Q.set j (val (U.drop j) / V)).drop (j + 1) = Q.drop (j + 1) from List.drop_set_of_lt (by omega)] at hd
    have hg : (Q.set j (val (U.drop j) / V)).getD j 0 = val (U.drop j) / V := by simp [List.getD_eq_getElem?_getD, hQ]
    rw [hg] at hd
    rw [hd, Nat.add_mul, h.eq]
    have hdm := Nat.div_add_mod (val (U.drop j)) V
    generalize val (U.drop j) / V = q at *
    generalize val (U.drop j) % V = r at *
    generalize val (U.drop j) = W at *
    have e1 : B * val (Q.drop (j + 1)) * (B ^ j * V) = val (Q.drop (j + 1)) * (B ^ (j + 1) * V) := by rw [Nat.pow_succ]; ac_rfl
    have e2 : q * (B ^ j * V) = B ^ j * (V * q) := by ac_rfl
    rw [e1, e2]
    rw [← hdm, Nat.mul_add] at hm
    omega
  · rw [mid_drop (by omega), val_append, padL_len, padL_val, show j + (n + 1) = j + n + 1 by omega, w2, Nat.mul_zero, Nat.add_zero]
    exact Nat.lt_of_le_of_lt (Nat.mod_le _ _) (Nat.mod_lt _ hV0)
theorem DivInv.done {a b s n : Nat} {U Q : List Nat} (hb : 0 < b) (h : DivInv (a * 2 ^ s) (b * 2 ^ s) n U Q 0) : val Q = a / b ∧ val U / 2 ^ s = a % b := by
  have hp : 0 < 2 ^ s := Nat.pow_pos (by decide)
  have h1 := h.eq
  have h2 := h.lt
  rw [List.drop_zero, Nat.pow_zero, Nat.one_mul] at h1
  rw [List.drop_zero] at h2
  have h3 : a * 2 ^ s / (b * 2 ^ s) = a / b := Nat.mul_div_mul_right _ _ hp
  have h4 : a * 2 ^ s % (b * 2 ^ s) = a % b * 2 ^ s := Nat.mul_mod_mul_right _ _ _
  have h5 : val Q = a * 2 ^ s / (b * 2 ^ s) := by
    rw [h1, Nat.add_comm, Nat.mul_comm (val Q), Nat.add_mul_div_left _ _ (Nat.mul_pos hb hp), Nat.div_eq_of_lt h2, Nat.zero_add]
  have h6 : val U = a * 2 ^ s % (b * 2 ^ s) := by
    rw [h1, Nat.add_comm, Nat.mul_comm (val Q), Nat.add_mul_mod_self_left, Nat.mod_eq_of_lt h2]
  exact ⟨h5.trans h3, by rw [h6, h4, Nat.mul_div_cancel _ hp]⟩
end Go.Vw

/-
  Long division of lists of limbs: the estimate of one digit in terms of the limbs. Conditions: as each says.
-/
namespace Go.Vw
structure Hid (p : Prop) : Prop where
  out : p
end Go.Vw

/-
  Square roots of whole numbers by Newton's iteration; powers of 2 as lists of limbs. Conditions: as each says.
-/
namespace Go.Vw
def rtGo : Nat → Nat → Nat
  | 0, _ => 0
  | k + 1, a => if (k + 1) * (k + 1) ≤ a then k + 1 else rtGo k a
def rt (a : Nat) : Nat := rtGo a a
end Go.Vw

/-
  Intervals of rational numbers: what the operations are, in plain terms. Conditions: as each says.
-/
namespace Go.Vw
abbrev I2 := Rat × Rat
@[reducible] def iD (a b : R3) : D := .agg [.bool a.1, u32s a.2.1, u32s a.2.2, .bool b.1, u32s b.2.1, u32s b.2.2]
@[reducible] def iQ (i : I2) : D := iD (rq i.1) (rq i.2)
def takeI (x y : Rat) : I2 := if y < x then (0, 0) else (x, y)
end Go.Vw

/-
  A law's rational numbers and intervals as they come in. Conditions: as each says.
-/
namespace Go.Vw
structure RawR (r : R3) : Prop where
  wm : WF r.2.1
  wd : WF r.2.2
  lm : r.2.1.length ≤ 9223372036854775807
  ld : r.2.2.length ≤ 9223372036854775807
end Go.Vw

/-
  Formulas as they come in. Conditions: none.
-/
namespace Go.Vw
abbrev tNode : Ty := .struct (.cons (.int .i64) (.cons .str (.cons (.int .i64) .nil)))
abbrev tFm : Ty := .struct (.cons .str (.cons (.slice tNode) .nil))
abbrev vNode : Type := Int × List UInt8 × Int × Unit
abbrev vFm : Type := List UInt8 × List vNode × Unit
def toNd (x : vNode) : Nd := (x.1, x.2.1, x.2.2.1)
def toNds (l : List vNode) : List Nd := l.map toNd
abbrev fmD (s : List UInt8) (e : List Nd) : D := .agg [.str s, ndsD e]
theorem leNds (l : List vNode) : LeD (.sl 3 (Ty.cells tNode) (Ty.zero tNode) l) (ndsD (toNds l)) := by
  refine LeD.sl (List.length_map ..).symm fun i (a : vNode) b (ha : (l[i]? : Option vNode) = some a) hb => ⟨rfl, ?_⟩
  unfold toNds at hb
  rw [List.getElem?_map, ha] at hb
  have e : toNd a = b := Option.some.inj hb
  subst e
  exact LeL.cons (LeD.refl _) (LeL.cons (LeD.refl _) (LeL.cons (LeD.refl _) LeL.nil))
theorem leFm (x : vFm) : LeD (Ty.top tFm x) (fmD x.1 (toNds x.2.1)) :=
  LeD.agg (LeL.cons (LeD.refl _) (LeL.cons (leNds _) LeL.nil))
theorem toNds_len (l : List vNode) : (toNds l).length = l.length := List.length_map ..
theorem fm_wf {x : vFm} (h : Ty.wf tFm x) : x.1.length ≤ maxLen ∧ (toNds x.2.1).length ≤ maxLen := ⟨h.1, by rw [toNds_len]; exact h.2.1.1⟩
theorem vld_of {s : List UInt8} {e : List Nd} (h : vld s e = true) : isName s = true ∧ Built e ∧ e.length ≤ 64 := by
  unfold vld at h
  simp only [Bool.and_eq_true, decide_eq_true_eq] at h
  exact ⟨h.1, cnt_built.1 h.2.1, h.2.2⟩
theorem vld_mk {s : List UInt8} {e : List Nd} (h1 : isName s = true) (h2 : Built e) : vld s e = decide (e.length ≤ 64) := by
  unfold vld
  rw [h1, cnt_built.2 h2]; simp
end Go.Vw

/-
  Models: what is valid. Conditions: none.
-/
namespace Go.Vw
abbrev Fc : Type := List UInt8 × Int
@[reducible] def fcC (f : Fc) : List D := [.str f.1, .int .i64 f.2]
abbrev fc0 : Fc := ([], 0)
abbrev fcD (f : Fc) : D := .agg [.str f.1, .int .i64 f.2]
abbrev fsD (l : List Fc) : D := .sl 2 fcC fc0 l
@[reducible] def rwC (l : List Fc) : List D := [fsD l]
abbrev rwD (T : List (List Fc)) : D := .sl 1 rwC [] T
abbrev mdD (s : List UInt8) (b : Bool) (T : List (List Fc)) : D := .agg [.str s, .bool b, rwD T]
theorem find_pred {α : Type} (z : α) (l : List α) (P : α → Bool) : (l.any P = true ∧ ∃ j, j < l.length ∧ P (l.getD j z) = true ∧ ∀ i, i < j → P (l.getD i z) = false) ∨ (l.any P = false ∧ ∀ i, i < l.length → P (l.getD i z) = false) := by
  cases hm : l.any P with
  | true =>
    refine .inl ⟨rfl, ?_⟩
    induction l with
    | nil => cases hm
    | cons a l ih =>
      cases e : P a with
      | true => exact ⟨0, by simp, e, fun i hi => by omega⟩
      | false =>
        obtain ⟨j, a1, a2, a3⟩ := ih (by simpa [e] using hm)
        exact ⟨j + 1, by simp; omega, a2, fun i hi => by cases i with | zero => exact e | succ i => exact a3 i (by omega)⟩
  | false =>
    refine .inr ⟨rfl, fun i hi => ?_⟩
    rw [List.any_eq_false] at hm
    rw [List.getD_eq_getElem?_getD, List.getElem?_eq_getElem hi]
    simpa using hm _ (List.getElem_mem hi)
def fOk (f : Fc) : Bool := isName f.1 && (decide (1 ≤ f.2) && decide (f.2 ≤ 8))
def sameF (a b : List Fc) : Bool := decide (a.length = b.length) && !(a.any fun f => !decide (f ∈ b))
def facOk (t : List Fc) (k : Nat) : Bool := fOk (t.getD k fc0) && !decide (t.getD k fc0 ∈ t.take k)
def lenOk (T : List (List Fc)) (i : Nat) : Bool := decide (1 ≤ (T.getD i []).length) && (decide ((T.getD i []).length ≤ 6) && (decide (i = 0) || decide ((T.getD (i - 1) []).length ≤ (T.getD i []).length)))
def facsOk (t : List Fc) : Bool := (List.range t.length).all (facOk t)
def newOk (T : List (List Fc)) (i : Nat) : Bool := !((T.take i).any fun s => sameF s (T.getD i []))
def rowOk (T : List (List Fc)) (i : Nat) : Bool := lenOk T i && (facsOk (T.getD i []) && newOk T i)
def mdlV (s : List UInt8) (T : List (List Fc)) : Bool := isName s && (decide (T.length ≤ 32) && (List.range T.length).all (rowOk T))
theorem all_false {n : Nat} {P : Nat → Bool} {i : Nat} (h : i < n) (hp : P i = false) : (List.range n).all P = false := by
  rw [List.all_eq_false]
  exact ⟨i, List.mem_range.2 h, by rw [hp]; decide⟩
theorem all_true {n : Nat} {P : Nat → Bool} (h : ∀ i, i < n → P i = true) : (List.range n).all P = true := List.all_eq_true.2 fun i hi => h i (List.mem_range.1 hi)
end Go.Vw

/-
  Right sides as lists of terms. Conditions: as each says.
-/
namespace Go.Vw
def addF (fs : List Fc) (f : Fc) : List Fc := if f ∈ fs then fs else fs ++ [f]
def facN (n : Nd) : Fc := (n.2.1, if n.1 = 1 then 1 else n.2.2)
def addT (fs : List Fc) : Ft → List Fc
  | .leaf n => if n.1 = 1 ∨ n.1 = 2 then addF fs (facN n) else fs
  | .un _ a => addT fs a
  | .bi _ a b => addT (addT fs a) b
def vN (al : List Fc) (n : Nd) : List Nat := if n.1 = 3 then [0] else if n.1 = 4 then [] else [2 ^ al.idxOf (facN n)]
def fitO (l : List Nat) : Option (List Nat) := if fitsM l = true then some l else none
def exM (al : List Fc) : Ft → Option (List Nat)
  | .leaf n => some (vN al n)
  | .un k a => match exM al a with
    | some l => fitO (powM l (k.toNat - 1))
    | none => none
  | .bi op a b => match exM al a, exM al b with
    | some l, some m => fitO (opM op l m)
    | _, _ => none
def apM (l m : List Nat) (z add : Bool) : Option (List Nat) := if (z != add) then (if fitsM (plusM l (if z then [0] else m)) then some (plusM l (if z then [0] else m)) else none) else some (minusM l (if z then [0] else m))
def stpM (al : List Fc) (o : Option (List Nat)) (T : Ft) (add : Bool) : Option (List Nat) := match o, exM al T with
  | some l, some m => apM l m (decide (T.op = 4)) add
  | _, _ => none
def mdM (al : List Fc) (l0 : List Nat) : Ft → Option (List Nat)
  | .bi op a b => if op = 5 ∨ op = 6 then stpM al (mdM al l0 a) b (decide (op = 5)) else stpM al (some l0) (.bi op a b) true
  | T => stpM al (some l0) T true

theorem addF_pre (fs : List Fc) (f : Fc) : fs <+: addF fs f := by
  unfold addF; split
  · exact List.prefix_refl _
  · exact List.prefix_append _ _
theorem addT_pre : ∀ (T : Ft) (fs : List Fc), fs <+: addT fs T
  | .leaf n, fs => by
    unfold addT; split
    · exact addF_pre _ _
    · exact List.prefix_refl _
  | .un k a, fs => addT_pre a fs
  | .bi op a b, fs => (addT_pre a fs).trans (addT_pre b _)
theorem mem_addF {fs : List Fc} {f g : Fc} : g ∈ addF fs f ↔ g ∈ fs ∨ g = f := by
  unfold addF; split
  · constructor
    · exact .inl
    · rintro (h | rfl) <;> assumption
  · simp
theorem nodup_addF {fs : List Fc} {f : Fc} (h : fs.Nodup) : (addF fs f).Nodup := by
  unfold addF; split
  · exact h
  · rename_i hf
    rw [List.nodup_append]
    exact ⟨h, by simp, fun a ha b hb => by simp at hb; subst hb; exact fun e => hf (e ▸ ha)⟩
theorem nodup_addT : ∀ (T : Ft) {fs : List Fc}, fs.Nodup → (addT fs T).Nodup
  | .leaf n, fs, h => by
    unfold addT; split
    · exact nodup_addF h
    · exact h
  | .un k a, fs, h => nodup_addT a h
  | .bi op a b, fs, h => nodup_addT b (nodup_addT a h)
theorem idx_pre {fs al : List Fc} {f : Fc} (h : fs <+: al) (hf : f ∈ fs) : al.idxOf f = fs.idxOf f := by
  obtain ⟨r, rfl⟩ := h
  rw [List.idxOf_append, if_pos hf]
theorem popcF_pow : ∀ (k i : Nat), i < k → popcF k (2 ^ i) = 1
  | k + 1, 0, _ => by show 1 % 2 + popcF k (1 / 2) = 1; rw [show 1 / 2 = 0 from rfl, popcF_zero]
  | k + 1, i + 1, h => by
    show 2 ^ (i + 1) % 2 + popcF k (2 ^ (i + 1) / 2) = 1
    rw [show 2 ^ (i + 1) % 2 = 0 by rw [Nat.pow_succ]; omega, show 2 ^ (i + 1) / 2 = 2 ^ i by rw [Nat.pow_succ]; omega, popcF_pow k i (by omega)]
theorem popc_pow {i : Nat} (h : i < 64) : popc (2 ^ i) = 1 := popcF_pow 64 i h
structure TmOk (n : Nat) (l : List Nat) : Prop where
  fit : fitsM l = true
  nd : l.Nodup
  bd : BdM n l
theorem fitO_some {l m : List Nat} (h : fitO l = some m) : fitsM l = true ∧ m = l := by
  unfold fitO at h
  split at h
  · rename_i q; exact ⟨q, (Option.some.inj h).symm⟩
  · cases h
theorem leaf_ok {al : List Fc} {n : Nd} (h64 : al.length ≤ 64) (hf : n.1 = 1 ∨ n.1 = 2 → facN n ∈ al) (hn : leafOk n) : TmOk al.length (vN al n) := by
  unfold vN
  rcases hn with ⟨h, _⟩ | ⟨h, _⟩ | ⟨h | h, _⟩
  · have := List.idxOf_lt_length_of_mem (hf (.inl h))
    rw [if_neg (by omega), if_neg (by omega)]
    exact ⟨fitsM_iff.2 ⟨by simp, fun t ht => by simp at ht; subst ht; rw [popc_pow (by omega)]; decide⟩, by simp, fun t ht => by simp at ht; subst ht; exact Nat.pow_lt_pow_right (by decide) this⟩
  · have := List.idxOf_lt_length_of_mem (hf (.inr h))
    rw [if_neg (by omega), if_neg (by omega)]
    exact ⟨fitsM_iff.2 ⟨by simp, fun t ht => by simp at ht; subst ht; rw [popc_pow (by omega)]; decide⟩, by simp, fun t ht => by simp at ht; subst ht; exact Nat.pow_lt_pow_right (by decide) this⟩
  · rw [if_pos h]; exact ⟨by decide, by simp, fun t ht => by simp at ht; subst ht; exact Nat.two_pow_pos _⟩
  · rw [if_neg (by omega), if_pos h]; exact ⟨by decide, by simp, fun t ht => by cases ht⟩
def facsIn (al : List Fc) : Ft → Prop
  | .leaf n => n.1 = 1 ∨ n.1 = 2 → facN n ∈ al
  | .un _ a => facsIn al a
  | .bi _ a b => facsIn al a ∧ facsIn al b
theorem facsIn_mono {al al' : List Fc} (h : ∀ f ∈ al, f ∈ al') : ∀ (T : Ft), facsIn al T → facsIn al' T
  | .leaf n, q => fun hn => h _ (q hn)
  | .un _ a, q => facsIn_mono h a q
  | .bi _ a b, q => ⟨facsIn_mono h a q.1, facsIn_mono h b q.2⟩
theorem facsIn_addT : ∀ (T : Ft) (fs : List Fc), facsIn (addT fs T) T
  | .leaf n, fs => fun hn => by
    unfold addT; rw [if_pos hn]; exact mem_addF.2 (.inr rfl)
  | .un k a, fs => facsIn_addT a fs
  | .bi op a b, fs => ⟨facsIn_mono (fun f hf => (addT_pre b _).subset hf) a (facsIn_addT a fs), facsIn_addT b _⟩
theorem exM_ok {al : List Fc} (h64 : al.length ≤ 64) : ∀ (T : Ft), T.ok → facsIn al T → ∀ l, exM al T = some l → TmOk al.length l
  | .leaf n, hok, hf, l, h => by cases h; exact leaf_ok h64 hf hok
  | .un k a, hok, hf, l, h => by
    simp only [exM] at h
    split at h
    · rename_i m hm
      obtain ⟨h1, h2⟩ := fitO_some h
      have o := exM_ok h64 a hok.2.2 hf m hm
      subst h2
      exact ⟨h1, nodup_powM o.nd _, o.bd.pow _⟩
    · cases h
  | .bi op a b, hok, hf, l, h => by
    simp only [exM] at h
    split at h
    · rename_i m m2 hm hm2
      obtain ⟨h1, h2⟩ := fitO_some h
      have o := exM_ok h64 a hok.2.2.1 hf.1 m hm
      have o2 := exM_ok h64 b hok.2.2.2 hf.2 m2 hm2
      subst h2
      exact ⟨h1, nodup_opM o.nd, o.bd.op o2.bd⟩
    · cases h
def facM (fs : List Fc) (t : Nat) : List Fc := ((List.range fs.length).filter fun i => t.testBit i).map fun i => fs.getD i fc0
def facP (fs : List Fc) (t k : Nat) : List Fc := ((List.range k).filter fun i => t.testBit i).map fun i => fs.getD i fc0
theorem facP_zero (fs : List Fc) (t : Nat) : facP fs t 0 = [] := rfl
theorem facP_all (fs : List Fc) (t : Nat) : facP fs t fs.length = facM fs t := rfl
theorem facP_step (fs : List Fc) (t k : Nat) : facP fs t (k + 1) = facP fs t k ++ if t.testBit k then [fs.getD k fc0] else [] := by
  unfold facP
  rw [List.range_succ, List.filter_append, List.map_append]
  congr 1
  cases h : t.testBit k <;> simp [h]
theorem facP_len (fs : List Fc) (t k : Nat) : (facP fs t k).length ≤ k := by
  unfold facP
  rw [List.length_map]
  exact Nat.le_trans (List.length_filter_le _ _) (by rw [List.length_range]; exact Nat.le_refl _)
end Go.Vw

/-
  The program's difference of terms; a step of a model. Conditions: as each says.
-/
set_option maxHeartbeats 8000000
namespace Go.Proofs.Ytjooknpgcjicbaa
open Go.Vw
attribute [local irreducible] awp awpL awpR

theorem terms_withoutB (a b : List Nat) (ha : a.length ≤ 1000000) (hb : b.length ≤ 1000000) : ∃ L, (minusM a b).length ≤ L.length ∧ L.take (minusM a b).length = minusM a b ∧ (∀ t ∈ L, t ∈ a ∨ t = 0) ∧ RetB Try.prog 28 [.d (tsD a), .d (tsD b)] (lookB []) (tO (minusM a b).length) (lookB [(5, tB L)]) := by
  have cl := slices_CloneT a ha
  obtain ⟨L, l1, l2, l3, df⟩ := slices_DeleteT a b ha hb
  have df := df.ren [(600, 3)]
  have := minusM_le a b
  refine ⟨L, by omega, l2, l3, ?_⟩
  generalize minusM a b = m at *
  refine retB_of_awp tab [] Try.func28 rfl rfl rfl (Nat.le_of_ble_eq_true rfl) rfl trivial (fun w0 F0 A io0 => ?_)
  repeat' (first | refine wG ?_ | refine wD [5] cl ?_ | refine wD [] df ?_ | refine wR ?_ | refine wS ?_ ?_ <;> intro _ | refine wB ?_ ?_ | refine wF ?_)
  all_goals first | exact leVT | exact ⟨rfl, trivial⟩
theorem terms_without (a b : List Nat) (ha : a.length ≤ 1000000) (hb : b.length ≤ 1000000) : Ret Try.prog 28 [tsD a, tsD b] (· = tsD (minusM a b)) := by
  obtain ⟨L, l1, l2, _, h⟩ := terms_withoutB a b ha hb
  have := RetB.toRet (ds := [tsD a, tsD b]) h false rfl trivial
  rw [cut_zero, l2] at this
  exact this
def outT : Option (List Nat) → Out
  | some l => .ret (.d (tsD l)) []
  | none => .pan limV
theorem outT_cov (o : Option (List Nat)) : coverO [] (outT o) = true := by cases o <;> rfl
theorem outT_ln (o : Option (List Nat)) : LnO [] (outT o) := by cases o <;> trivial
theorem terms_applyO (l m : List Nat) (z add : Bool) (hl : l.length ≤ 100) (hm : m.length ≤ 100) (bl : BdM 64 l) (bm : BdM 64 m) : OutB Try.prog 60 [.d (tsD l), .d (tsD m), .d (.bool z), .d (.bool add)] [] (outT (apM l m z add)) := by
  have key : ∀ (m' : List Nat), m'.length ≤ 100 → BdM 64 m' → ((if z then [0] else m) = m') → OutB Try.prog 60 [.d (tsD l), .d (tsD m), .d (.bool z), .d (.bool add)] [] (outT (apM l m z add)) := fun m' hm' bm' e => by
    have w := terms_with l m' (by omega) (by omega)
    have wo := terms_without l m' (by omega) (by omega)
    have pl := (plusM_le l m').2
    have c1 := terms_checked (plusM l m') (by omega) (bl.plus bm')
    have c2 := terms_checkedP (plusM l m') (by omega) (bl.plus bm')
    have ea : apM l m z add = if (z != add) then (if fitsM (plusM l m') then some (plusM l m') else none) else some (minusM l m') := by unfold apM; rw [e]
    rw [ea]
    clear ea bl bm bm'
    cases z with
    | true =>
      have e : [0] = m' := e
      cases add with
      | true =>
        rw [show (true != true) = false from rfl, if_neg (by decide)]
        subst e
        clear c1 c2
        generalize minusM l [0] = q at *
        refine outB_of_awp tab [] Try.func60 rfl rfl rfl (Nat.le_of_ble_eq_true rfl) (outT_cov _) (outT_ln _) (fun w0 F0 A io0 => ?_)
        repeat' (first | refine wX ?_ | refine wE ?_ | refine wG ?_ | refine wC wo ?_ | refine wR ?_ | refine wS ?_ ?_ <;> intro _ | exact wQ rfl | (refine wO ?_; refine wB ?_ ?_) | (refine wO ?_; refine wF ?_))
        all_goals first | exact leVT | trivial
      | false =>
        rw [show (true != false) = true from rfl, if_pos rfl]
        subst e
        cases hf : fitsM (plusM l [0]) with
        | true =>
          have c1 := c1 hf
          rw [if_pos rfl]
          clear c2 wo
          generalize plusM l [0] = q at *
          refine outB_of_awp tab [] Try.func60 rfl rfl rfl (Nat.le_of_ble_eq_true rfl) (outT_cov _) (outT_ln _) (fun w0 F0 A io0 => ?_)
          repeat' (first | refine wX ?_ | refine wE ?_ | refine wG ?_ | refine wC w ?_ | refine wC c1 ?_ | refine wR ?_ | refine wS ?_ ?_ <;> intro _ | exact wQ rfl | (refine wO ?_; refine wB ?_ ?_) | (refine wO ?_; refine wF ?_))
          all_goals first | exact leVT | trivial
        | false =>
          have v2 := c2 hf
          rw [if_neg (by decide)]
          clear c1 c2 wo
          generalize plusM l [0] = q at *
          refine outB_of_awp tab [] Try.func60 rfl rfl rfl (Nat.le_of_ble_eq_true rfl) (outT_cov _) (outT_ln _) (fun w0 F0 A io0 => ?_)
          repeat' (first | refine wX ?_ | refine wE ?_ | refine wG ?_ | refine wP v2 ?_ | refine wC w ?_ | refine wR ?_ | refine wS ?_ ?_ <;> intro _ | exact wQ rfl | (refine wO ?_; refine wB ?_ ?_) | (refine wO ?_; refine wF ?_))
    | false =>
      have e : m = m' := e
      subst e
      cases add with
      | false =>
        rw [show (false != false) = false from rfl, if_neg (by decide)]
        clear c1 c2
        generalize minusM l m = q at *
        refine outB_of_awp tab [] Try.func60 rfl rfl rfl (Nat.le_of_ble_eq_true rfl) (outT_cov _) (outT_ln _) (fun w0 F0 A io0 => ?_)
        repeat' (first | refine wX ?_ | refine wE ?_ | refine wG ?_ | refine wC wo ?_ | refine wR ?_ | refine wS ?_ ?_ <;> intro _ | exact wQ rfl | (refine wO ?_; refine wB ?_ ?_) | (refine wO ?_; refine wF ?_))
        all_goals first | exact leVT | trivial
      | true =>
        rw [show (false != true) = true from rfl, if_pos rfl]
        cases hf : fitsM (plusM l m) with
        | true =>
          have c1 := c1 hf
          rw [if_pos rfl]
          clear c2 wo
          generalize plusM l m = q at *
          refine outB_of_awp tab [] Try.func60 rfl rfl rfl (Nat.le_of_ble_eq_true rfl) (outT_cov _) (outT_ln _) (fun w0 F0 A io0 => ?_)
          repeat' (first | refine wX ?_ | refine wE ?_ | refine wG ?_ | refine wC w ?_ | refine wC c1 ?_ | refine wR ?_ | refine wS ?_ ?_ <;> intro _ | exact wQ rfl | (refine wO ?_; refine wB ?_ ?_) | (refine wO ?_; refine wF ?_))
          all_goals first | exact leVT | trivial
        | false =>
          have v2 := c2 hf
          rw [if_neg (by decide)]
          clear c1 c2 wo
          generalize plusM l m = q at *
          refine outB_of_awp tab [] Try.func60 rfl rfl rfl (Nat.le_of_ble_eq_true rfl) (outT_cov _) (outT_ln _) (fun w0 F0 A io0 => ?_)
          repeat' (first | refine wX ?_ | refine wE ?_ | refine wG ?_ | refine wP v2 ?_ | refine wC w ?_ | refine wR ?_ | refine wS ?_ ?_ <;> intro _ | exact wQ rfl | (refine wO ?_; refine wB ?_ ?_) | (refine wO ?_; refine wF ?_))
  cases z with
  | true => exact key [0] (by simp) (fun t ht => by simp at ht; subst ht; decide) rfl
  | false => exact key m hm bm rfl
end Go.Proofs.Ytjooknpgcjicbaa

/-
  Factors: held against each other, their places, lists of them. Conditions: as each says.
-/
set_option maxHeartbeats 8000000
namespace Go.Proofs.Ytjooknpgcjicbaa
open Go.Vw
attribute [local irreducible] awp awpL awpR

abbrev mdT : TypeId := 29
abbrev fcT : TypeId := 37
theorem fc_same (a c : Int) (x y : List UInt8) (w : World) : (Op.equalIn 10000 fcT (.agg #[.string ⟨x.toArray⟩, .int .i64 a]) (.agg #[.string ⟨y.toArray⟩, .int .i64 c])).run Try.prog w = .ok (decide ((x, a) = (y, c))) w := by
  have t38 := tab _ _ (show T fcT = some _ from rfl)
  have t3 := tab _ _ (show T 3 = some _ from rfl)
  have t9 := tab _ _ (show T 9 = some _ from rfl)
  have hS : Try.prog.underlying fcT = some (.struct (Try.prog.fieldsOf fcT)) := by kernel_rfl
  rw [show (10000 : Nat) = (9998 + 1) + 1 from rfl, run_equalIn_agg w (9998 + 1) fcT _ _ hS (by kernel_rfl)]
  simp only [Program.fieldsOf, t38.und]
  simp [Op.eqFields, part, t3.runA, t9.runA, TypeDesc.many, run_equalIn_int _ _ _ _ _ _ _ t3.und, run_equalIn_string _ _ _ _ _ t9.und]
  by_cases h1 : x = y
  · by_cases h2 : a = c
    · rw [if_pos h1, if_pos h2]; simp [h1, h2]
    · rw [if_pos h1, if_neg h2]; simp [h2]
  · rw [if_neg h1]; simp [h1]
theorem fc_val {F : Nat → Prop} {w : World} {c : Int} {b : List UInt8} {v : Value} (h : DR F w (.agg [.str b, .int .i64 c]) v) : v = .agg #[.string ⟨b.toArray⟩, .int .i64 c] := by
  simp only [DR, DRA] at h
  obtain ⟨arr, e, n, ⟨v1, g1, _, h1⟩, ⟨v2, g2, _, h2⟩, _⟩ := h
  subst h1 h2 e
  congr 1
  apply Array.ext
  · simpa using n
  · intro i hi1 hi2
    have : i = 0 ∨ i = 1 := by simp at hi2; omega
    rcases this with q | q <;> subst q <;> simp_all [Array.getElem?_eq_some_iff]
theorem m_eqF {X : Ctx} {all : Array Oper} {s : St} {o : Oper} {x y : Operand} {t2 : TypeId} {a b : Fc} (hop : o.op = .binOp .eql fcT x y t2) (hx : s.opd x = .d (fcD a)) (hy : s.opd y = .d (fcD b)) (hg : gd all s o = some true) (hP : X.P = Try.prog) : M1 X all s o (.d (.bool (decide (a = b)))) := by
  intro io F ac w ht hb hF K Q hK
  have hvx := operands_of ht x (by rw [hop]; simp [Op.operands])
  have hvy := operands_of ht y (by rw [hop]; simp [Op.operands])
  rw [hx] at hvx
  rw [hy] at hvy
  simp only [VR] at hvx hvy
  have e1 := fc_val hvx
  have e2 := fc_val hvy
  have hr : (execOp ac.eval o).run X.P w = .ok (.value (.bool (decide (a = b)))) w := by
    rw [hP]
    have hq : Try.prog.eqGuardType Try.prog.depth fcT = false := by kernel_rfl
    simp only [execOp, hop, e1, e2, Sem.run_bind, run_eqGuard_agg w _ _ _ _ _ _ hq, Result.andThen_ok, run_eql_struct, fc_same]
    rfl
  exact opWp_value (gd_sound ht hg) hr (hK F w _ (Go.RowKit.Below.refl _ _) (fun _ h => h) (fun _ h => .inl h) (by simp only [VR, DR]))
theorem stepEqF {X : Ctx} {all : Array Oper} {Q : Exit → St → Prop} {s : St} {o : Oper} {rest : List Oper} {x y : Operand} {t2 : TypeId} {d : Tmp} {a b : Fc} (hop : o.op = .binOp .eql fcT x y t2) (hdst : o.dst = some d) (hx : s.opd x = .d (fcD a)) (hy : s.opd y = .d (fcD b)) (hg : gd all s o = some true) (hd : dstOk X.N (some d) = true) (hP : X.P = Try.prog) (k : awpL X all rest Q (s.put (some d) (.d (.bool (decide (a = b)))))) : awpL X all (o :: rest) Q s := stepM hdst hd (m_eqF hop hx hy hg hP) k
theorem fc_find (l : List Fc) (f : Fc) : (f ∈ l ∧ ∃ j, j < l.length ∧ l.getD j fc0 = f ∧ (∀ i, i < j → l.getD i fc0 ≠ f) ∧ l.idxOf f = j) ∨ (f ∉ l ∧ ∀ i, i < l.length → l.getD i fc0 ≠ f) := by
  by_cases hm : f ∈ l
  · refine .inl ⟨hm, ?_⟩
    induction l with
    | nil => cases hm
    | cons a l ih =>
      by_cases e : a = f
      · exact ⟨0, by simp, e, fun i hi => by omega, by simp [List.idxOf_cons, e]⟩
      · obtain ⟨j, a1, a2, a3, a4⟩ := ih ((List.mem_cons.1 hm).resolve_left (Ne.symm e))
        exact ⟨j + 1, by simp; omega, a2, fun i hi => by cases i with | zero => exact e | succ i => exact a3 i (by omega), by rw [List.idxOf_cons, a4, beq_eq_false_iff_ne.2 e]; rfl⟩
  · exact .inr ⟨hm, fun i hi e => hm (by
      rw [List.getD_eq_getElem?_getD, List.getElem?_eq_getElem hi] at e
      exact e ▸ List.getElem_mem hi)⟩
def plc (l : List Fc) (f : Fc) : Int := if f ∈ l then (l.idxOf f : Nat) else -1
theorem slices_IndexF (l : List Fc) (f : Fc) (hl : l.length ≤ 1000000) : Ret Try.prog 77 [fsD l, fcD f] (· = .int .i64 (plc l f)) := by
  unfold plc
  rcases fc_find l f with ⟨hm, j, hj, h1, h2, h4⟩ | ⟨hm, h2⟩
  · rw [if_pos hm, h4]
    clear hm h4
    refine ret_of_awp tab Try.func77 rfl rfl (Nat.le_of_ble_eq_true rfl) (fun w0 F0 => ?_)
    repeat' (first | refine wG ?_ | refine rg 4 5 ?_ | refine wR ?_ | refine wS ?_ ?_ <;> intro _ | refine finG ?_)
    refine awp_loop1 (fun (i : Nat) => ([(0, .d (fsD l)), (3, .ptr 3 0), (7, .d (.int .i64 l.length)), (8, .d (.int .i64 i))], [(3, .box fcT [.d (.str f.1), .d (.int .i64 f.2)])])) (fun i => i ≤ j) (fun i => l.length - i) 0 (by omega) ⟨rfl, rfl, rfl, rfl, rfl⟩ ⟨rfl, trivial⟩ (fun i hi => ?_)
    by_cases h3 : i < j
    · have q := h2 i h3
      clear h1 h2
      repeat' (first | refine stepEqF (a := f) (b := l.getD i fc0) rfl rfl rfl rfl rfl rfl rfl ?_ | refine wG ?_ | refine rg 4 5 ?_ | refine wR ?_ | refine wS ?_ ?_ <;> intro _ | refine finG ?_)
      · exact absurd (by assumption) (Ne.symm q)
      · exact ⟨i + 1, by omega, by omega, ⟨rfl, rfl, rfl, iv (by omega), rfl⟩, rfl, trivial⟩
    · have e : i = j := by omega
      subst e
      clear h2
      repeat' (first | refine stepEqF (a := f) (b := l.getD i fc0) rfl rfl rfl rfl rfl rfl rfl ?_ | refine wG ?_ | refine rg 4 5 ?_ | refine wR ?_ | refine wS ?_ ?_ <;> intro _ | refine finG ?_)
      · rfl
      · exact absurd h1.symm (by assumption)
  · rw [if_neg hm]
    clear hm
    refine ret_of_awp tab Try.func77 rfl rfl (Nat.le_of_ble_eq_true rfl) (fun w0 F0 => ?_)
    repeat' (first | refine wG ?_ | refine rg 4 5 ?_ | refine wR ?_ | refine wS ?_ ?_ <;> intro _ | refine finG ?_)
    refine awp_loop1 (fun (i : Nat) => ([(0, .d (fsD l)), (3, .ptr 3 0), (7, .d (.int .i64 l.length)), (8, .d (.int .i64 i))], [(3, .box fcT [.d (.str f.1), .d (.int .i64 f.2)])])) (fun i => i ≤ l.length) (fun i => l.length - i) 0 (by omega) ⟨rfl, rfl, rfl, rfl, rfl⟩ ⟨rfl, trivial⟩ (fun i hi => ?_)
    by_cases h3 : i < l.length
    · have q := h2 i h3
      clear h2
      repeat' (first | refine stepEqF (a := f) (b := l.getD i fc0) rfl rfl rfl rfl rfl rfl rfl ?_ | refine wG ?_ | refine rg 4 5 ?_ | refine wR ?_ | refine wS ?_ ?_ <;> intro _ | refine finG ?_)
      · exact absurd (by assumption) (Ne.symm q)
      · exact ⟨i + 1, by omega, by omega, ⟨rfl, rfl, rfl, iv (by omega), rfl⟩, rfl, trivial⟩
    · have e : i = l.length := by omega
      subst e
      clear h2
      repeat' (first | refine wG ?_ | refine rg 4 5 ?_ | refine wR ?_ | refine wS ?_ ?_ <;> intro _ | refine finG ?_)
      rfl
theorem plc_ge {l : List Fc} {f : Fc} : 0 ≤ plc l f ↔ f ∈ l := by
  unfold plc
  by_cases h : f ∈ l
  · rw [if_pos h]; exact ⟨fun _ => h, fun _ => by omega⟩
  · rw [if_neg h]; exact ⟨fun e => absurd e (by decide), fun e => absurd e h⟩
theorem slices_ContainsF (l : List Fc) (f : Fc) (hl : l.length ≤ 1000000) : Ret Try.prog 42 [fsD l, fcD f] (· = .bool (decide (f ∈ l))) := by
  have ix := slices_IndexF l f hl
  rw [show decide (f ∈ l) = decide (0 ≤ plc l f) from decide_eq_decide.2 plc_ge.symm]
  generalize plc l f = n at *
  refine ret_of_awp tab Try.func42 rfl rfl (Nat.le_of_ble_eq_true rfl) (fun w0 F0 => ?_)
  repeat' (first | refine wG ?_ | refine wC ix ?_ | refine wR ?_ | refine wS ?_ ?_ <;> intro _ | refine finG ?_)
  rfl
theorem ref10_place (l : List Fc) (f : Fc) (hl : l.length ≤ 1000000) : Ret Try.prog 47 [fsD l, fcD f] (· = .int .i64 (plc l f)) := by
  unfold plc
  rcases fc_find l f with ⟨hm, j, hj, h1, h2, h4⟩ | ⟨hm, h2⟩
  · rw [if_pos hm, h4]
    clear hm h4
    refine ret_of_awp tab Try.func47 rfl rfl (Nat.le_of_ble_eq_true rfl) (fun w0 F0 => ?_)
    repeat' (first | refine wG ?_ | refine rg 4 5 ?_ | refine wR ?_ | refine wS ?_ ?_ <;> intro _ | refine finG ?_)
    refine awp_loop1 (fun (i : Nat) => ([(0, .d (fsD l)), (3, .ptr 3 0), (5, .d (.int .i64 i))], [(3, .box fcT [.d (.str f.1), .d (.int .i64 f.2)])])) (fun i => i ≤ j) (fun i => l.length - i) 0 (by omega) ⟨rfl, rfl, rfl, rfl⟩ ⟨rfl, trivial⟩ (fun i hi => ?_)
    by_cases h3 : i < j
    · have q := h2 i h3
      clear h1 h2
      repeat' (first | refine stepEqF (a := l.getD i fc0) (b := f) rfl rfl rfl rfl rfl rfl rfl ?_ | refine wG ?_ | refine rg 4 5 ?_ | refine wR ?_ | refine wS ?_ ?_ <;> intro _ | refine finG ?_)
      exact ⟨i + 1, by omega, by omega, ⟨rfl, rfl, iv (by omega), rfl⟩, rfl, trivial⟩
    · have e : i = j := by omega
      subst e
      clear h2
      repeat' (first | refine stepEqF (a := l.getD i fc0) (b := f) rfl rfl rfl rfl rfl rfl rfl ?_ | refine wG ?_ | refine rg 4 5 ?_ | refine wR ?_ | refine wS ?_ ?_ <;> intro _ | refine finG ?_)
      rfl
  · rw [if_neg hm]
    clear hm
    refine ret_of_awp tab Try.func47 rfl rfl (Nat.le_of_ble_eq_true rfl) (fun w0 F0 => ?_)
    repeat' (first | refine wG ?_ | refine rg 4 5 ?_ | refine wR ?_ | refine wS ?_ ?_ <;> intro _ | refine finG ?_)
    refine awp_loop1 (fun (i : Nat) => ([(0, .d (fsD l)), (3, .ptr 3 0), (5, .d (.int .i64 i))], [(3, .box fcT [.d (.str f.1), .d (.int .i64 f.2)])])) (fun i => i ≤ l.length) (fun i => l.length - i) 0 (by omega) ⟨rfl, rfl, rfl, rfl⟩ ⟨rfl, trivial⟩ (fun i hi => ?_)
    by_cases h3 : i < l.length
    · have q := h2 i h3
      clear h2
      repeat' (first | refine stepEqF (a := l.getD i fc0) (b := f) rfl rfl rfl rfl rfl rfl rfl ?_ | refine wG ?_ | refine rg 4 5 ?_ | refine wR ?_ | refine wS ?_ ?_ <;> intro _ | refine finG ?_)
      exact ⟨i + 1, by omega, by omega, ⟨rfl, rfl, iv (by omega), rfl⟩, rfl, trivial⟩
    · have e : i = l.length := by omega
      subst e
      clear h2
      repeat' (first | refine wG ?_ | refine rg 4 5 ?_ | refine wR ?_ | refine wS ?_ ?_ <;> intro _ | refine finG ?_)
      rfl
end Go.Proofs.Ytjooknpgcjicbaa

/-
  Functions that use up the blocks they are lent, and hand back data; a closure put off and a panic among them. Conditions: the table of types is the program's.
-/
set_option linter.unusedSectionVars false
namespace Go.Vw
open Go.RowKit

structure RetL (P : Program) (f : FuncId) (xs : List V) (B : Nat → Option Blk) (y : D) : Prop where
  enters : Enters P f
  run : ∀ (io : Nat → Option Nat) (F : Nat → Prop) (w : World) (vs : Array Value), (∀ b, F b → b < w.heap.size) → vs.size = xs.length → VRT ⟨io, lnO B⟩ F w (fun i => vs[i]?) 0 xs → BsR (OwnA B io) w.heap.size io F w B →
    Calls P f vs w fun e w' => ∃ v F', e = .returned v ∧ Kept (OwnA B io) w w' ∧ (∀ b, F b → F' b) ∧ (∀ b, F' b → b < w'.heap.size ∧ (F b ∨ w.heap.size ≤ b ∨ OwnA B io b)) ∧ DR F' w' y v

section
variable {X : Ctx} {all : Array Oper} {Q : Exit → St → Prop} {s : St} {o : Oper} {rest : List Oper}
theorem clL2 {Pg : Program} {c : Call} {caps : List V} {d : Tmp} {f : FuncId} {xs : List V} {bs : List (Nat × Blk)} {y : D} (hcf : calleeIs s o.op f = true) (hop : o.op = .call c) (hc : calleeOf s c = some (f, caps)) (hdst : o.dst = some d) (hg : gd all s o = some true) (hd : dstOk X.N (some d) = true) (hcov : (keysOk bs (V.refsL xs) && coverR bs bs) = true) (le : LeVT (c.args.toList.map s.opd ++ caps) xs) (hB : AllB s bs) (hP : X.P = Pg) : RetL Pg f xs (lookB bs) y → awpL X all rest Q ((s.subs (bs.map (·.1))).put (some d) (.d y)) → awpL X all (o :: rest) Q s := fun hr k io F a w hs => by
  subst hP
  simp only [Bool.and_eq_true] at hcov
  obtain ⟨c1, c2⟩ := hcov
  refine wpList_cons ?_
  obtain ⟨vs, h1, h2, h3⟩ := run_call (P := X.P) (operands_of (all := all) (fun t _ => hs.tm t)) hop hc hr.enters
  unfold opWp
  rw [if_pos (gd_sound (fun t _ => hs.tm t) hg)]; left
  unfold Oper.wp; rw [h1]
  simp only [Oper.upon]
  have hB' : ∀ k b, lookB bs k = some b → s.blk k = some b := fun k b hk => (lookB_of hB k b hk).1
  have hln : ∀ k, lookB bs k ≠ none → s.ln k ≤ lnO (lookB bs) k := fun k hk => by
    obtain ⟨b, hb⟩ := Option.ne_none_iff_exists'.1 hk
    rw [lnO_of hb, ln_of (hB' k b hb)]; exact Nat.le_refl _
  have hargs : VRT ⟨io, lnO (lookB bs)⟩ F w (fun i => vs[i]?) 0 xs := VRT.agree (io := s.keys io) _ _ _ (fun k hk => ⟨rfl, hln k (hasKey_ne (keysOk_spec c1 k hk))⟩) (le.2 _ _ _ _ _ h3)
  have hbl := hs.lendB hB' (fun k b hk j hj => coverR_spec c2 _ (lookB_mem hk) j hj)
  refine (hr.run io F w vs (fun b h => (hs.ff b h).1) (by rw [h2, le.1]) hargs hbl).mono fun e w' ⟨v, F', he, g, g2, g3, g4⟩ => ?_
  subst he
  have hA : ∀ c, OwnA (lookB bs) io c → (X.A c ∨ X.w0.heap.size ≤ c) ∧ ¬ F c := fun c ⟨k, hk, e⟩ => by
    obtain ⟨b, hb⟩ := Option.ne_none_iff_exists'.1 hk
    have := (hs.bl k b (hB' k b hb)).notF e
    exact ⟨this.2.1, this.1⟩
  have hoth : ∀ j c, (s.subs (bs.map (·.1))).blk j ≠ none → io j = some c → ¬ OwnA (lookB bs) io c := fun j c hj e ⟨k, hk, e'⟩ => by
    obtain ⟨b0, hb0⟩ := Option.ne_none_iff_exists'.1 hj
    obtain ⟨q1, b1, q2⟩ := subs_blk _ hb0
    obtain ⟨b, hb⟩ := Option.ne_none_iff_exists'.1 hk
    have := hs.inj j k c (by rw [q2]; simp) (by rw [hB' k b hb]; simp) e e'
    subst this
    exact q1 (List.mem_map.2 ⟨_, lookB_mem hb, rfl⟩)
  have h0 := (hs.loses (bs.map (·.1))).later g hA hoth
  -- the data's area grows
  have hst : Stays F w' w' := fun _ _ => rfl
  have hi : ∀ k, ((s.subs (bs.map (·.1))).keys io).io k = ((s.subs (bs.map (·.1))).keys io).io k ∧ ((s.subs (bs.map (·.1))).keys io).ln k ≤ ((s.subs (bs.map (·.1))).keys io).ln k := fun k => ⟨rfl, Nat.le_refl _⟩
  have hsr : SR X io F' (s.subs (bs.map (·.1))) a w' := by
    refine ⟨h0.kept, fun t => VR.mono hi g2 hst (Shapes.refl _) _ _ (h0.tm t), h0.nt, DfR.mono hi g2 hst (Shapes.refl _) _ _ h0.df, fun k b hk => ?_, h0.inj, fun b hb => ?_, fun b hb => g2 b (h0.f0 b hb), h0.st⟩
    · refine BR.mono hi g2 hst (Shapes.refl _) (fun c o' e1 e2 e3 => ⟨e2, fun h => ?_⟩) (h0.bl k b hk)
      obtain ⟨q1, q2⟩ := g3 c h
      have hlt : c < w.heap.size := ((hs.loses (bs.map (·.1))).bl k b hk).notF e1 |>.2.2
      rcases q2 with q | q | q
      · exact e3 q
      · omega
      · exact hoth k c (by rw [hk]; simp) e1 q
    · obtain ⟨q1, q2⟩ := g3 b hb
      refine ⟨q1, ?_⟩
      rcases q2 with q | q | q
      · exact (hs.ff b q).2
      · exact .inr (.inl (Nat.le_trans hs.kept.size q))
      · rcases (hA b q).1 with q | q
        · exact .inr (.inr q)
        · exact .inr (.inl q)
  rw [hdst]
  exact k io F' _ _ (hsr.put (dstOk_sound hd) (by simpa only [VR] using g4))
end
theorem wL {Pg : Program} {f : FuncId} {xs : List V} {bs : List (Nat × Blk)} {y : D} {G P : Prop} (hr : RetL Pg f xs (lookB bs) y) (k : G) (h : RetL Pg f xs (lookB bs) y → G → P := by
  first
  | (show _ → _ → awpL _ _ _ _ _
     first
     | exact Go.Vw.clL2 Go.Vw.tt rfl rfl rfl rfl rfl rfl Go.Vw.leVT Go.Vw.allB rfl
     | exact Go.Vw.clL2 (Nat.beq_refl _) rfl rfl rfl rfl rfl rfl Go.Vw.leVT Go.Vw.allB rfl)
  | fail) : P := h hr k

/-! ## A function that puts off a closure and hands back data -/

def OneD (ys : List D) (y : D) : Prop := (∃ x, ys = [x] ∧ LeD x y) ∨ (ys.length ≠ 1 ∧ ∃ zs, y = .tup zs ∧ LeT ys zs)
def endL (T : TypeId → Option TyD) (P : Program) (fn : Func) (y : D) : Exit → St → Prop
  | .ret, s => ∃ g caps bd bd' ds, s.dfs = [(g, caps)] ∧ DefC P g caps bd .returning .returning bd' ∧ AllB s bd ∧ (keysOk bd (V.refsL caps) && coverR bd bd && keysIn bd [] bd') = true ∧ (∃ ys, resAll T (s.over bd') fn.results.toList = some ys ∧ allD ys = some ds) ∧ OneD ds y
  | .panic c, s => ∃ u u' g caps bd bd' ds, c = thrown u ∧ s.dfs = [(g, caps)] ∧ settle u' = .returning ∧ DefC P g caps bd (.panicking (thrown u)) u' bd' ∧ AllB s bd ∧ (keysOk bd (V.refsL caps) && coverR bd bd && keysIn bd [] bd') = true ∧ (∃ ys, resAll T (s.over bd') fn.results.toList = some ys ∧ allD ys = some ds) ∧ OneD ds y
  | _, _ => False
theorem retL_of_awpD {P : Program} {T : TypeId → Option TyD} (hT : TabOk P T) {f : FuncId} {fn : Func} {c : Code} (ks : List Nat) (hf : P.funcs[f]? = some fn) (hname : (fn.name == "runtime.NumGoroutine") = false) (hb : fn.body = some c) {xs : List V} {bs : List (Nat × Blk)} {y : D} (hn : xs.length ≤ fn.ntmps)
    (h : ∀ w0 F0 A io0, awp ⟨P, T, hT, fn.ntmps, w0, A, F0, ks, io0⟩ c (endL T P fn y) (St.initB xs bs)) : RetL P f xs (lookB bs) y := by
  refine ⟨⟨fn, hf, hname, by rw [hb]; rfl⟩, fun io F w vs hF hl hv hbs => ?_⟩
  refine calls_of_wp_defers hf hb ?_
  refine wp_mono (h w F _ io io F _ w (sr_initB hT (ks := ks) hl hn hF hv hbs)) fun e a' w' ⟨s', io', F', hq, hs'⟩ => ?_
  have key : ∀ (u u' : FrameMode) (g : FuncId) (caps : List V) (bd bd' : List (Nat × Blk)) (ds : List D), u ≠ .run → settle u' = .returning → s'.dfs = [(g, caps)] → DefC P g caps bd u u' bd' → AllB s' bd → (keysOk bd (V.refsL caps) && coverR bd bd && keysIn bd [] bd') = true → (∃ ys, resAll T (s'.over bd') fn.results.toList = some ys ∧ allD ys = some ds) → OneD ds y → Leaves P fn a'.tmps (fun e w' => ∃ v F', e = .returned v ∧ Kept (OwnA (lookB bs) io) w w' ∧ (∀ b, F b → F' b) ∧ (∀ b, F' b → b < w'.heap.size ∧ (F b ∨ w.heap.size ≤ b ∨ OwnA (lookB bs) io b)) ∧ DR F' w' y v) a'.defers u w' := fun u u' g caps bd bd' ds hne hset hdf hD hB hcv ⟨ys, hys, hds⟩ hone => by
    simp only [Bool.and_eq_true] at hcv
    obtain ⟨⟨d1, d2⟩, d3⟩ := hcv
    have hdf' := hs'.df
    rw [hdf] at hdf'
    obtain ⟨arr, rest, e1, e2, e3, e4⟩ := hdf'
    have e4 : rest = [] := e4
    subst e4
    rw [e1]
    have hB' : ∀ k b, lookB bd k = some b → s'.blk k = some b := fun k b hk => (lookB_of hB k b hk).1
    have hln' : ∀ k, lookB bd k ≠ none → s'.ln k ≤ lnO (lookB bd) k := fun k hk => by
      obtain ⟨b, hb⟩ := Option.ne_none_iff_exists'.1 hk
      rw [lnO_of hb, ln_of (hB' k b hb)]; exact Nat.le_refl _
    have hargs : VRT ⟨io', lnO (lookB bd)⟩ F' w' (fun i => arr[i]?) 0 caps := VRT.agree (io := s'.keys io') _ _ _ (fun k hk => ⟨rfl, hln' k (hasKey_ne (keysOk_spec d1 k hk))⟩) (VRA.toT e3)
    have hbl := hs'.lendB hB' (fun k b hk j hj => coverR_spec d2 _ (lookB_mem hk) j hj)
    refine leaves_cons hne (f := g) (args := arr) ?_ ?_
    · have := run_enter hD.enters w' arr
      simp only [invoke]
      simpa using this
    · refine (hD.run io' F' w' arr (fun b h => (hs'.ff b h).1) e2 hargs hbl).mono fun e u2 w2 ⟨hu2, v, io2, F2, he, g1, g2, g3, g4, g5, g6⟩ => ?_
      subst he hu2
      simp only
      obtain ⟨key, _⟩ := hs'.afterB [] hB' hD.keep hD.ln hD.refsB (fun k hk => by
        obtain ⟨b, hb⟩ := Option.ne_none_iff_exists'.1 hk
        exact keysIn_spec d3 _ (lookB_mem hb)) (fun k hk => by simp at hk) g1 g2 g3 g4 g6
      rw [hset]
      obtain ⟨vs', hvs, hl', hd'⟩ := resAll_sound hT key _ hys
      have hvd := VRT.ofD hds hd'
      have hlen : vs'.length = ds.length := by rw [hl', allD_map hds]; simp
      refine ⟨_, run_results fn hvs, _, F2, rfl, key.kept, key.f0, key.ff, ?_⟩
      rcases hone with ⟨x, rfl, hx⟩ | ⟨hne1, zs, rfl, hz⟩
      · obtain ⟨v, rfl⟩ := List.length_eq_one_iff.1 (show vs'.length = 1 by simpa using hlen)
        simp only [DRT] at hvd
        obtain ⟨⟨u, hu, hd2⟩, _⟩ := hvd
        simp at hu; subst hu
        exact hx _ _ _ hd2
      · have hn1 : vs'.length ≠ 1 := by rw [hlen]; exact hne1
        rw [dif_neg hn1]
        simp only [DR]
        exact ⟨vs'.toArray, rfl, by simp; rw [hlen, hz.1], hz.2 _ _ _ _ (by simpa using hvd)⟩
  cases e with
  | ret =>
    obtain ⟨g, caps, bd, bd', ds, q1, q2, q3, q4, q5, q6⟩ := hq
    exact key .returning .returning g caps bd bd' ds (by simp) rfl q1 q2 q3 q4 q5 q6
  | panic ch =>
    obtain ⟨u, u', g, caps, bd, bd', ds, q0, q1, qs, q2, q3, q4, q5, q6⟩ := hq
    subst q0
    exact key _ u' g caps bd bd' ds (by simp) qs q1 q2 q3 q4 q5 q6
  | _ => exact hq.elim
end Go.Vw
namespace Go.Vw
open Go.RowKit
/-! ## Interface values -/
theorem run_assert_same {P : Program} {w : World} {t xT : TypeId} {d : TypeDesc} (v : Value) (hu : P.underlying t = some d) (hd : isIfcD d = false) : (Instr.typeAssert (.iface t v) xT t true).run P w = .ok (.tuple #[v, .bool true]) w := by
  cases d <;> first | (cases hd; done) | simp [Instr.typeAssert, run_underlying hu]
theorem run_nilIface_eq {P : Program} {w : World} {ti : TypeId} {ms : Array (String × TypeId)} (hi : P.underlying ti = some (.interface ms)) : (binOp .eql ti .nilIface .nilIface).run P w = .ok (.bool true) w := by
  have h : ∀ d : Nat, (Op.equalIn (d + 1) ti .nilIface .nilIface).run P w = .ok true w := fun d => by simp [Op.equalIn, run_underlying hi]
  simp only [binOp]
  simp [Op.equal, Op.maxDepth, h 9999]
theorem run_iface_nil {P : Program} {w : World} {ti u : TypeId} {x : Value} {ms : Array (String × TypeId)} (hi : P.underlying ti = some (.interface ms)) : (binOp .eql ti (.iface u x) .nilIface).run P w = .ok (.bool false) w := by
  have h : ∀ d : Nat, (Op.equalIn (d + 1) ti (.iface u x) .nilIface).run P w = .ok false w := fun d => by simp [Op.equalIn, run_underlying hi]
  simp only [binOp]
  simp [Op.equal, Op.maxDepth, h 9999]
section
variable {X : Ctx} {all : Array Oper} {Q : Exit → St → Prop} {s : St} {o : Oper} {rest : List Oper}
theorem stepIsNil {t t2 : TypeId} {x : Operand} {cv : Value} {d : Tmp} {b : Bool} (hop : o.op = .binOp .eql t x (.const cv) t2) (hdst : o.dst = some d) (hy : cv = .nilIface) (hx : (s.opd x = .d (.raw .nilIface) ∧ b = true) ∨ ∃ u z, s.opd x = .d (.ifc u z) ∧ b = false) (hg : gd all s o = some true) (hd : dstOk X.N (some d) = true) (hi : X.P.isIface t = true) (k : awpL X all rest Q (s.put (some d) (.d (.bool b)))) : awpL X all (o :: rest) Q s := fun io F a w hs => by
  obtain ⟨dst, op, ty, pos, after, g⟩ := o
  cases hop; cases hdst
  obtain ⟨ms, hu⟩ := underlying_of_isIface hi
  subst hy
  have hvx := hs.opd x
  have hr : (execOp a.eval ⟨some d, .binOp .eql t x (.const .nilIface) t2, ty, pos, after, g⟩).run X.P w = .ok (.value (.bool b)) w := by
    rcases hx with ⟨h1, rfl⟩ | ⟨u, z, h1, rfl⟩
    · rw [h1] at hvx
      simp only [VR, DR] at hvx
      simp [execOp, hvx, show a.eval (.const .nilIface) = .nilIface from rfl, eqGuard, run_nilIface_eq hu]
    · rw [h1] at hvx
      simp only [VR, DR] at hvx
      obtain ⟨v, e, _⟩ := hvx
      simp [execOp, e, show a.eval (.const .nilIface) = .nilIface from rfl, eqGuard, run_iface_nil hu]
  refine wpList_cons (opWp_value (gd_sound (fun t _ => hs.tm t) hg) hr ?_)
  exact k io F _ w (hs.put (dstOk_sound hd) (by simp only [VR, DR]))
theorem stepAssert {t xT : TypeId} {x : Operand} {td : TyD} {d : Tmp} {y : D} (hop : o.op = .typeAssert x xT t true) (hdst : o.dst = some d) (ht : X.T t = some td) (hi : isIfcD td.desc = false) (hx : s.opd x = .d (.ifc t y)) (hg : gd all s o = some true) (hd : dstOk X.N (some d) = true) (k : awpL X all rest Q (s.put (some d) (.d (.tup [y, .bool true])))) : awpL X all (o :: rest) Q s := fun io F a w hs => by
  obtain ⟨dst, op, ty, pos, after, g⟩ := o
  cases hop; cases hdst
  have hu := (X.ok _ _ ht).und
  have hvx := hs.opd x
  rw [hx] at hvx
  simp only [VR, DR] at hvx
  obtain ⟨v, e, hv⟩ := hvx
  have hr : (execOp a.eval ⟨some d, .typeAssert x xT t true, ty, pos, after, g⟩).run X.P w = .ok (.value (.tuple #[v, .bool true])) w := by
    simp only [execOp, e, Sem.run_bind, Sem.run_pure, Result.andThen_ok, run_assert_same v hu hi]
  refine wpList_cons (opWp_value (gd_sound (fun t _ => hs.tm t) hg) hr ?_)
  refine k io F _ w (hs.put (dstOk_sound hd) ?_)
  simp only [VR, DR, DRT]
  exact ⟨#[v, .bool true], rfl, rfl, ⟨v, by simp, hv⟩, ⟨.bool true, by simp, rfl⟩, trivial⟩
end
theorem wI {G P : Prop} (k : G) (h : G → P := by
  first
  | (show _ → awpL _ _ _ _ _
     first
     | exact Go.Vw.stepIsNil rfl rfl rfl (.inl ⟨rfl, rfl⟩) rfl rfl (by kernel_rfl)
     | exact Go.Vw.stepIsNil rfl rfl rfl (.inr ⟨_, _, rfl, rfl⟩) rfl rfl (by kernel_rfl)
     | exact Go.Vw.stepAssert rfl rfl rfl rfl rfl rfl rfl)
  | fail) : P := h k
end Go.Vw

/-
  Contracts of functions that are lent blocks of which some may be laid anew (a list within a variable that grows). Conditions: the table of types is the program's.
-/
namespace Go.Vw
open Go.RowKit
section
variable {X : Ctx} {all : Array Oper} {s : St} {o : Oper} {c : Call} {f : FuncId} {caps : List V}
theorem SR.afterM (fr : List Nat) {io : Nat → Option Nat} {F : Nat → Prop} {a : Act} {w : World} (hs : SR X io F s a w) {B : Nat → Option Blk} {bs' : List (Nat × Blk)} (hB : ∀ k b, B k = some b → s.blk k = some b) (hkeep : ∀ k, B k ≠ none → lookB bs' k ≠ none) (hlnm : ∀ k, B k ≠ none → k ∉ fr → lnO B k ≤ lnO (lookB bs') k) (hrefsB : ∀ k b, lookB bs' k = some b → ∀ j ∈ b.refs, lookB bs' j ≠ none) (hfr : ∀ k, lookB bs' k ≠ none → B k ≠ none ∨ k ∈ fr) (hfr2 : ∀ k ∈ fr, k ∉ X.K) {w' : World} {io' : Nat → Option Nat} {F' : Nat → Prop} (g1 : Kept (OwnA B io) w w') (g2 : ∀ b, F b → F' b) (g3 : ∀ b, F' b → b < w'.heap.size ∧ (F b ∨ w.heap.size ≤ b ∨ OwnA B io b)) (g4 : ∀ k, B k ≠ none → k ∉ fr → io' k = io k) (g6 : BsR (OwnA B io) w.heap.size io' F' w' (lookB bs')) :
    SR X (ioSubs io io' fr) F' ((s.subs fr).over bs') a w' ∧ ∀ k, lookB bs' k ≠ none → ioSubs io io' fr k = io' k ∧ lnO (lookB bs') k ≤ ((s.subs fr).over bs').ln k := by
  have hln : ∀ k, B k ≠ none → s.ln k ≤ lnO B k := fun k hk => by
    obtain ⟨b, hb⟩ := Option.ne_none_iff_exists'.1 hk
    rw [lnO_of hb, ln_of (hB k b hb)]; exact Nat.le_refl _
  have hs1 := hs.subs io' fr (fun k hk => hfr2 k hk)
  have hio1 : ∀ k, lookB bs' k ≠ none → ioSubs io io' fr k = io' k := fun k hk => by
    by_cases e : k ∈ fr
    · exact (ioSubs_of io io' fr k).1 e
    · rw [(ioSubs_of io io' fr k).2 e]
      exact (g4 k ((hfr k hk).resolve_right e) e).symm
  have hA : ∀ c, OwnA B io c → X.A c ∨ X.w0.heap.size ≤ c := fun c ⟨k, hk, e⟩ => by
    obtain ⟨b, hb⟩ := Option.ne_none_iff_exists'.1 hk
    exact ((hs.bl k b (hB k b hb)).notF e).2.1
  have hAF : ∀ c, OwnA B io c → ¬ F c := fun c ⟨k, hk, e⟩ => by
    obtain ⟨b, hb⟩ := Option.ne_none_iff_exists'.1 hk
    exact ((hs.bl k b (hB k b hb)).notF e).1
  have hArea : ∀ c, OwnA B io c ∨ w.heap.size ≤ c → X.A c ∨ X.w0.heap.size ≤ c := fun c h => h.elim (hA c) (fun h => .inr (Nat.le_trans hs.kept.size h))
  have hst : Stays F w w' := fun b h => g1.block b (hs.ff b h).1 (fun h' => hAF b h' h)
  have hoth : ∀ j c, s.blk j ≠ none → B j = none → io j = some c → ¬ OwnA B io c ∧ c < w.heap.size := fun j c hj hBj e => by
    obtain ⟨b, hb⟩ := Option.ne_none_iff_exists'.1 hj
    refine ⟨fun ⟨k, hk, e'⟩ => ?_, ((hs.bl j b hb).notF e).2.2⟩
    obtain ⟨b2, hb2⟩ := Option.ne_none_iff_exists'.1 hk
    have := hs.inj j k c hj (by rw [hB k b2 hb2]; simp) e e'
    rw [this] at hBj; exact hk hBj
  have hlt : ∀ j, s.ln j ≤ lnO B j ∨ B j = none := fun j => by
    by_cases e : B j = none
    · exact .inr e
    · exact .inl (hln j e)
  have hi : ∀ k, (((s.subs fr).over bs').keys (ioSubs io io' fr)).io k = ((s.subs fr).keys (ioSubs io io' fr)).io k ∧ ((s.subs fr).keys (ioSubs io io' fr)).ln k ≤ (((s.subs fr).over bs').keys (ioSubs io io' fr)).ln k := fun k => ⟨rfl, by
    show (s.subs fr).ln k ≤ ((s.subs fr).over bs').ln k
    rw [over_ln]
    split
    · exact Nat.le_refl _
    · rename_i hk
      rw [subs_ln]
      split
      · exact Nat.zero_le _
      · rename_i hk2
        have hBk := (hfr k hk).resolve_right hk2
        exact Nat.le_trans (hln k hBk) (hlnm k hBk hk2)⟩
  have hlnB : ∀ k, lookB bs' k ≠ none → lnO (lookB bs') k ≤ ((s.subs fr).over bs').ln k := fun k hk => by rw [over_ln, if_neg hk]; exact Nat.le_refl _
  have hov : ∀ k, lookB bs' k ≠ none → ((s.subs fr).over bs').blk k = lookB bs' k := fun k hk => by
    obtain ⟨b, hb⟩ := Option.ne_none_iff_exists'.1 hk
    simp only [St.over, hb]
  have hov2 : ∀ k, lookB bs' k = none → ((s.subs fr).over bs').blk k = (s.subs fr).blk k := fun k hk => by simp only [St.over, hk]
  have key : SR X (ioSubs io io' fr) F' ((s.subs fr).over bs') a w' := by
    refine ⟨⟨g1.os.trans hs.kept.os, g1.tape.trans hs.kept.tape, g1.output.trans hs.kept.output, Nat.le_trans hs.kept.size g1.size, fun b e1 e2 => ?_, hs.kept.shape.trans g1.shape⟩, fun t => VR.mono hi g2 hst g1.shape _ _ (hs1.tm t), hs1.nt, DfR.mono hi g2 hst g1.shape _ _ hs1.df, fun k b hk => ?_, fun k k' b e1 e2 e3 e4 => ?_, fun b hb => ?_, fun b hb => g2 b (hs.f0 b hb), hs1.st⟩
    · rw [g1.block b (Nat.lt_of_lt_of_le e1 hs.kept.size) (fun h => by rcases hA b h with h | h; exact e2 h; omega)]
      exact hs.kept.block b e1 e2
    · by_cases e : lookB bs' k = none
      · rw [hov2 k e] at hk
        obtain ⟨q1, b0, q2⟩ := subs_blk fr hk
        have hBk : B k = none := by
          by_cases h : B k = none
          · exact h
          · exact absurd e (hkeep k h)
        refine BR.mono hi g2 hst g1.shape (fun c o' e1 e2 e3 => ?_) (hs1.bl k b hk)
        have e1' : io k = some c := by rw [← (ioSubs_of io io' fr k).2 q1]; exact e1
        obtain ⟨p1, p2⟩ := hoth k c (by rw [q2]; simp) hBk e1'
        refine ⟨(g1.block c p2 p1).trans e2, fun h => ?_⟩
        rcases (g3 c h).2 with h | h | h
        · exact e3 h
        · omega
        · exact p1 h
      · rw [hov k e] at hk
        exact BR.agree (io := ⟨io', lnO (lookB bs')⟩) hArea (hio1 k e) (fun j hj => ⟨hio1 j (hrefsB k b hk j hj), hlnB j (hrefsB k b hk j hj)⟩) (g6.br k b hk)
    · by_cases h1 : lookB bs' k = none
      · by_cases h2 : lookB bs' k' = none
        · rw [hov2 k h1] at e1
          rw [hov2 k' h2] at e2
          exact hs1.inj k k' b e1 e2 e3 e4
        · exfalso
          rw [hov2 k h1] at e1
          obtain ⟨b1, hb1⟩ := Option.ne_none_iff_exists'.1 e1
          obtain ⟨q1, b0, q2⟩ := subs_blk fr hb1
          have hBk : B k = none := by
            by_cases h : B k = none
            · exact h
            · exact absurd h1 (hkeep k h)
          rw [(ioSubs_of io io' fr k).2 q1] at e3
          obtain ⟨p1, p2⟩ := hoth k b (by rw [q2]; simp) hBk e3
          rw [hio1 k' h2] at e4
          obtain ⟨b2, hb2⟩ := Option.ne_none_iff_exists'.1 h2
          rcases ((g6.br k' b2 hb2).notF e4).2.1 with h | h
          · exact p1 h
          · omega
      · by_cases h2 : lookB bs' k' = none
        · exfalso
          rw [hov2 k' h2] at e2
          obtain ⟨b1, hb1⟩ := Option.ne_none_iff_exists'.1 e2
          obtain ⟨q1, b0, q2⟩ := subs_blk fr hb1
          have hBk : B k' = none := by
            by_cases h : B k' = none
            · exact h
            · exact absurd h2 (hkeep k' h)
          rw [(ioSubs_of io io' fr k').2 q1] at e4
          obtain ⟨p1, p2⟩ := hoth k' b (by rw [q2]; simp) hBk e4
          rw [hio1 k h1] at e3
          obtain ⟨b2, hb2⟩ := Option.ne_none_iff_exists'.1 h1
          rcases ((g6.br k b2 hb2).notF e3).2.1 with h | h
          · exact p1 h
          · omega
        · rw [hio1 k h1] at e3
          rw [hio1 k' h2] at e4
          exact g6.inj k k' b h1 h2 e3 e4
    · obtain ⟨q1, q2⟩ := g3 b hb
      refine ⟨q1, ?_⟩
      rcases q2 with h | h | h
      · exact (hs.ff b h).2
      · exact .inr (.inl (Nat.le_trans hs.kept.size h))
      · rcases hA b h with h | h
        · exact .inr (.inr h)
        · exact .inr (.inl h)
  exact ⟨key, fun k hk => ⟨hio1 k hk, hlnB k hk⟩⟩


structure RetM (P : Program) (f : FuncId) (mv : List Nat) (xs : List V) (B : Nat → Option Blk) (y : V) (B' : Nat → Option Blk) : Prop where
  enters : Enters P f
  keep : ∀ k, B k ≠ none → B' k ≠ none
  ln : ∀ k, B k ≠ none → k ∉ mv → lnO B k ≤ lnO B' k
  refs : ∀ k ∈ y.refs, B' k ≠ none
  refsB : ∀ k b, B' k = some b → ∀ j ∈ b.refs, B' j ≠ none
  run : ∀ (io : Nat → Option Nat) (F : Nat → Prop) (w : World) (vs : Array Value), (∀ b, F b → b < w.heap.size) → vs.size = xs.length → VRT ⟨io, lnO B⟩ F w (fun i => vs[i]?) 0 xs → BsR (OwnA B io) w.heap.size io F w B →
    Calls P f vs w fun e w' => ∃ v io' F', e = .returned v ∧ Kept (OwnA B io) w w' ∧ (∀ b, F b → F' b) ∧ (∀ b, F' b → b < w'.heap.size ∧ (F b ∨ w.heap.size ≤ b ∨ OwnA B io b)) ∧ (∀ k, B k ≠ none → k ∉ mv → io' k = io k) ∧ VR ⟨io', lnO B'⟩ F' w' y v ∧ BsR (OwnA B io) w.heap.size io' F' w' B'
theorem e_callM (mv fr : List Nat) (hg : gd all s o = some true) (hd : dstOk X.N o.dst = true) (hop : o.op = .call c) (hc : calleeOf s c = some (f, caps)) {xs : List V} (le : LeVT (c.args.toList.map s.opd ++ caps) xs) {B : Nat → Option Blk} {bs' : List (Nat × Blk)} {y : V} (hr : RetM X.P f mv xs B y (lookB bs')) (hB : ∀ k b, B k = some b → s.blk k = some b) (hxr : ∀ k ∈ V.refsL xs, B k ≠ none) (hBr : ∀ k b, B k = some b → ∀ j ∈ b.refs, B j ≠ none) (hmv : ∀ k ∈ mv, k ∈ fr) (hfr : ∀ k, lookB bs' k ≠ none → B k ≠ none ∨ k ∈ fr) (hfr2 : ∀ k ∈ fr, k ∉ X.K) : E1 X all s o (((s.subs fr).over bs').put o.dst y) := fun io F a w hs K Q hK => by
  obtain ⟨vs, h1, h2, h3⟩ := run_call (P := X.P) (operands_of (all := all) (fun t _ => hs.tm t)) hop hc hr.enters
  unfold opWp
  rw [if_pos (gd_sound (fun t _ => hs.tm t) hg)]; left
  unfold Oper.wp; rw [h1]
  simp only [Oper.upon]
  have hln : ∀ k, B k ≠ none → s.ln k ≤ lnO B k := fun k hk => by
    obtain ⟨b, hb⟩ := Option.ne_none_iff_exists'.1 hk
    rw [lnO_of hb, ln_of (hB k b hb)]; exact Nat.le_refl _
  have hargs : VRT ⟨io, lnO B⟩ F w (fun i => vs[i]?) 0 xs := VRT.agree (io := s.keys io) _ _ _ (fun k hk => ⟨rfl, hln k (hxr k hk)⟩) (le.2 _ _ _ _ _ h3)
  have hbl := hs.lendB hB hBr
  refine (hr.run io F w vs (fun b h => (hs.ff b h).1) (by rw [h2, le.1]) hargs hbl).mono fun e w' ⟨v, io', F', he, g1, g2, g3, g4, g5, g6⟩ => ?_
  subst he
  obtain ⟨key, hkk⟩ := hs.afterM fr hB hr.keep (fun k h1 h2 => hr.ln k h1 fun h3 => h2 (hmv k h3)) hr.refsB hfr hfr2 g1 g2 g3 (fun k h1 h2 => g4 k h1 fun h3 => h2 (hmv k h3)) g6
  refine hK (ioSubs io io' fr) F' _ _ (key.put (dstOk_sound hd) (VR.agree (io := ⟨io', lnO (lookB bs')⟩) _ _ (fun k hk => hkk k (hr.refs k hk)) g5))
end
def freshM (K fr mv : List Nat) : Bool := (fr.all fun k => !(K.contains k)) && mv.all fun k => fr.contains k
theorem freshM_spec {K fr mv : List Nat} (h : freshM K fr mv = true) : (∀ k ∈ fr, k ∉ K) ∧ ∀ k ∈ mv, k ∈ fr := by
  unfold freshM at h
  rw [Bool.and_eq_true, List.all_eq_true, List.all_eq_true] at h
  refine ⟨fun k hk hK => ?_, fun k hk => ?_⟩
  · have := h.1 k hk
    rw [Bool.not_eq_true', List.contains_eq_mem, decide_eq_false_iff_not] at this
    exact this hK
  · have := h.2 k hk
    simpa [List.contains_eq_mem] using this
theorem clM {Pg : Program} {X : Ctx} {all : Array Oper} {s : St} {o : Oper} {Q : Exit → St → Prop} {rest : List Oper} {c : Call} {caps : List V} {d : Tmp} {f : FuncId} {mv fr : List Nat} {xs : List V} {bs bs' : List (Nat × Blk)} {y : V} (hcf : calleeIs s o.op f = true) (hop : o.op = .call c) (hc : calleeOf s c = some (f, caps)) (hdst : o.dst = some d) (hg : gd all s o = some true) (hd : dstOk X.N (some d) = true) (hcov : (keysOk bs (V.refsL xs) && coverR bs bs && keysIn bs fr bs' && freshM X.K fr mv) = true) (le : LeVT (c.args.toList.map s.opd ++ caps) xs) (hB : AllB s bs) (hP : X.P = Pg) : FrI fr → RetM Pg f mv xs (lookB bs) y (lookB bs') → awpL X all rest Q (((s.subs fr).over bs').put (some d) y) → awpL X all (o :: rest) Q s := fun _ hr k => by
  subst hP
  simp only [Bool.and_eq_true] at hcov
  obtain ⟨⟨⟨c1, c2⟩, c3⟩, c4⟩ := hcov
  obtain ⟨q1, q2⟩ := freshM_spec c4
  have h := e_callM (X := X) (all := all) (s := s) (o := o) mv fr hg (by rw [hdst]; exact hd) hop hc le hr (fun k b hk => (lookB_of hB k b hk).1) (fun k hk => hasKey_ne (keysOk_spec c1 k hk)) (fun k b hk j hj => coverR_spec c2 _ (lookB_mem hk) j hj) q2 (fun k hk => by
      obtain ⟨b, hb⟩ := Option.ne_none_iff_exists'.1 hk
      exact keysIn_spec c3 _ (lookB_mem hb)) q1
  rw [hdst] at h
  exact awpL_step h k
theorem wM {Pg : Program} {f : FuncId} (fr : List Nat) {mv : List Nat} {xs : List V} {bs bs' : List (Nat × Blk)} {y : V} {G P : Prop} (hr : RetM Pg f mv xs (lookB bs) y (lookB bs')) (k : G) (h : FrI fr → RetM Pg f mv xs (lookB bs) y (lookB bs') → G → P := by
  first
  | (show _ → _ → _ → awpL _ _ _ _ _
     first
     | exact Go.Vw.clM Go.Vw.tt rfl rfl rfl rfl rfl rfl Go.Vw.leVT Go.Vw.allB rfl
     | exact Go.Vw.clM (Nat.beq_refl _) rfl rfl rfl rfl rfl rfl Go.Vw.leVT Go.Vw.allB rfl)
  | fail) : P := h trivial hr k
def RetPostM (mv : List Nat) (io : Nat → Option Nat) (F : Nat → Prop) (w : World) (bs : List (Nat × Blk)) (y : V) (bs' : List (Nat × Blk)) : Ending → World → Prop := fun e w' => ∃ v io' F', e = .returned v ∧ Kept (OwnA (lookB bs) io) w w' ∧ (∀ b, F b → F' b) ∧ (∀ b, F' b → b < w'.heap.size ∧ (F b ∨ w.heap.size ≤ b ∨ OwnA (lookB bs) io b)) ∧ (∀ k, lookB bs k ≠ none → k ∉ mv → io' k = io k) ∧ VR ⟨io', lnO (lookB bs')⟩ F' w' y v ∧ BsR (OwnA (lookB bs) io) w.heap.size io' F' w' (lookB bs')
theorem retM_fin {mv : List Nat} {P : Program} {T : TypeId → Option TyD} {hT : TabOk P T} {fn : Func} {N : Nat} {ks : List Nat} {bs bs' : List (Nat × Blk)} {y : V} (hks : ∀ k, lookB bs k ≠ none → k ∉ mv → k ∈ ks) (hcov : (keysOk bs' y.refs && coverR bs' bs') = true) {io io' : Nat → Option Nat} {F F' : Nat → Prop} {w w' : World} {s' : St} {a' : Act} (hs' : SR ⟨P, T, hT, N, w, OwnA (lookB bs) io, F, ks, io⟩ io' F' s' a' w') (hq : s'.dfs = [] ∧ (∃ ys, resAll T s' fn.results.toList = some ys ∧ OneLe ys y) ∧ AllB s' bs') : a'.defers = [] ∧ ∃ v, (results fn a'.tmps).run P w' = .ok v w' ∧ RetPostM mv io F w bs y bs' (.returned v) w' := by
  simp only [Bool.and_eq_true] at hcov
  obtain ⟨c2, c3⟩ := hcov
  obtain ⟨hd, ⟨ys, h1, h2⟩, h3⟩ := hq
  obtain ⟨vs', hvs, hl', hd'⟩ := resAll_sound hT hs' _ h1
  have hln' : ∀ k, lookB bs' k ≠ none → s'.ln k ≤ lnO (lookB bs') k := fun k hk => by
    obtain ⟨b, hb⟩ := Option.ne_none_iff_exists'.1 hk
    rw [ln_of (lookB_of h3 k b hb).1, lnO_of hb]; exact Nat.le_refl _
  have hag : ∀ k ∈ y.refs, io' k = io' k ∧ s'.ln k ≤ lnO (lookB bs') k := fun k hk => ⟨rfl, hln' k (hasKey_ne (keysOk_spec c2 k hk))⟩
  have hdf := hs'.df
  rw [hd] at hdf
  have hbs' : BsR (OwnA (lookB bs) io) w.heap.size io' F' w' (lookB bs') := ⟨fun k b hk => BR.agree (io := s'.keys io') (io' := ⟨io', lnO (lookB bs')⟩) (fun _ h => h) rfl (fun j hj => ⟨rfl, hln' j (coverR_spec c3 _ (lookB_mem hk) j hj)⟩) (hs'.bl k b (lookB_of h3 k b hk).1), fun k k' b e1 e2 e3 e4 => by
    obtain ⟨b1, hb1⟩ := Option.ne_none_iff_exists'.1 e1
    obtain ⟨b2, hb2⟩ := Option.ne_none_iff_exists'.1 e2
    exact hs'.inj k k' b (by rw [(lookB_of h3 k b1 hb1).1]; simp) (by rw [(lookB_of h3 k' b2 hb2).1]; simp) e3 e4⟩
  refine ⟨hdf, _, run_results fn hvs, _, io', F', rfl, hs'.kept, hs'.f0, hs'.ff, fun k hk hm => hs'.st k (hks k hk hm), ?_, hbs'⟩
  rcases h2 with ⟨x, rfl, hx⟩ | ⟨hne, zs, rfl, hz⟩
  · obtain ⟨v, rfl⟩ := List.length_eq_one_iff.1 (show vs'.length = 1 by simpa using hl')
    have := hx.2 _ _ _ _ _ hd'
    simp only [VRT] at this
    obtain ⟨⟨u, hu, hd2⟩, _⟩ := this
    simp at hu; subst hu
    exact VR.agree (io := s'.keys io') _ _ hag hd2
  · have hn1 : vs'.length ≠ 1 := by rw [hl']; exact hne
    have := hz.2 _ _ _ _ _ hd'
    refine VR.agree (io := s'.keys io') _ _ hag ?_
    rw [dif_neg hn1]
    simp only [VR]
    exact ⟨vs'.toArray, rfl, by simp; rw [hl', hz.1], by simpa using this⟩

def movedIn (ks mv : List Nat) (bs : List (Nat × Blk)) : Bool := bs.all fun p => ks.contains p.1 || mv.contains p.1
def LnLeM (mv : List Nat) (bs' : List (Nat × Blk)) : List (Nat × Blk) → Prop
  | [] => True
  | (k, b) :: r => (mv.contains k = true ∨ b.ln ≤ lnO (lookB bs') k) ∧ LnLeM mv bs' r
theorem LnLeM_spec {mv : List Nat} {bs' : List (Nat × Blk)} : ∀ {l : List (Nat × Blk)}, LnLeM mv bs' l → ∀ p ∈ l, mv.contains p.1 = true ∨ p.2.ln ≤ lnO (lookB bs') p.1
  | [], _, p, h => by simp at h
  | (a, v) :: l, h, p, hp => by
    rcases List.mem_cons.1 hp with rfl | hp
    · exact h.1
    · exact LnLeM_spec h.2 p hp
theorem retM_of_awp {P : Program} {T : TypeId → Option TyD} (hT : TabOk P T) {f : FuncId} {fn : Func} {c : Code} (ks mv : List Nat) (hf : P.funcs[f]? = some fn) (hname : (fn.name == "runtime.NumGoroutine") = false) (hb : fn.body = some c) {xs : List V} {bs bs' : List (Nat × Blk)} {y : V} (hks : movedIn ks mv bs = true) (hn : xs.length ≤ fn.ntmps) (hcov : (keysOk bs' (bs.map (·.1)) && (keysOk bs' y.refs && coverR bs' bs')) = true) (hln : LnLeM mv bs' bs)
    (h : ∀ w0 F0 A io0, awp ⟨P, T, hT, fn.ntmps, w0, A, F0, ks, io0⟩ c (retPostB T fn y bs') (St.initB xs bs)) : RetM P f mv xs (lookB bs) y (lookB bs') := by
  rw [Bool.and_eq_true] at hcov
  obtain ⟨c1, c23⟩ := hcov
  have c23' := c23
  rw [Bool.and_eq_true] at c23'
  obtain ⟨c2, c3⟩ := c23'
  have hkey : ∀ k, lookB bs k ≠ none → k ∉ mv → k ∈ ks := fun k hk hm => by
    obtain ⟨b, hb⟩ := Option.ne_none_iff_exists'.1 hk
    unfold movedIn at hks
    rw [List.all_eq_true] at hks
    have := hks _ (lookB_mem hb)
    simp only [Bool.or_eq_true, List.contains_eq_mem, decide_eq_true_eq] at this
    exact this.resolve_right hm
  have hkm : ∀ k, lookB bs k ≠ none → k ∈ bs.map (·.1) := fun k hk => by
    obtain ⟨b, hb⟩ := Option.ne_none_iff_exists'.1 hk
    exact List.mem_map.2 ⟨_, lookB_mem hb, rfl⟩
  refine ⟨⟨fn, hf, hname, by rw [hb]; rfl⟩, fun k hk => hasKey_ne (keysOk_spec c1 k (hkm k hk)), fun k hk hm => ?_, fun k hk => hasKey_ne (keysOk_spec c2 k hk), fun k b hk j hj => coverR_spec c3 _ (lookB_mem hk) j hj, fun io F w vs hF hl hv hbs => ?_⟩
  · obtain ⟨b, hb⟩ := Option.ne_none_iff_exists'.1 hk
    rw [lnO_of hb]
    rcases LnLeM_spec hln _ (lookB_mem hb) with h | h
    · exact absurd (by simpa [List.contains_eq_mem] using h) hm
    · exact h
  refine calls_of_wp hf hb ?_
  refine wp_mono (h w F _ io io F _ w (sr_initB hT (ks := ks) hl hn hF hv hbs)) fun e a' w' ⟨s', io', F', hq, hs'⟩ => ?_
  cases e <;> simp only [retPostB] at hq <;> first | exact hq.elim | exact retM_fin hkey c23 hs' hq
def OutM (P : Program) (f : FuncId) (mv : List Nat) (xs : List V) (bs : List (Nat × Blk)) : Out → Prop
  | .ret y bs' => RetM P f mv xs (lookB bs) y (lookB bs')
  | .pan u => PanB P f xs (lookB bs) u
def coverM (ks : List Nat) : Out → Bool
  | .ret y bs' => keysOk bs' ks && (keysOk bs' y.refs && coverR bs' bs')
  | .pan _ => true
def LnM (mv : List Nat) (bs : List (Nat × Blk)) : Out → Prop
  | .ret _ bs' => LnLeM mv bs' bs
  | .pan _ => True
theorem outM_of_awp {P : Program} {T : TypeId → Option TyD} (hT : TabOk P T) {f : FuncId} {fn : Func} {c : Code} (ks mv : List Nat) (hf : P.funcs[f]? = some fn) (hname : (fn.name == "runtime.NumGoroutine") = false) (hb : fn.body = some c) {xs : List V} {bs : List (Nat × Blk)} {o : Out} (hks : movedIn ks mv bs = true) (hn : xs.length ≤ fn.ntmps) (hcov : coverM (bs.map (·.1)) o = true) (hln : LnM mv bs o)
    (h : ∀ w0 F0 A io0, awp ⟨P, T, hT, fn.ntmps, w0, A, F0, ks, io0⟩ c (outPost T fn o) (St.initB xs bs)) : OutM P f mv xs bs o := by
  cases o with
  | ret y bs' => exact retM_of_awp hT ks mv hf hname hb hks hn hcov hln h
  | pan u => exact panB_of_awp hT ks hf hname hb hn h
end Go.Vw

/-
  Drawn regions with one append to a list of the call's own that lies in a variable. Conditions: the table of types is the program's.
-/
namespace Go.Vw
open Go.RowKit

def pinO (ops : Array Oper) (c i : Nat) : Bool := Nat.blt i c && ((masks ops.toList []).getD c 0).testBit i
theorem pinO_lt {ops : Array Oper} {c i : Nat} (h : pinO ops c i = true) : i < c ∧ ((masks ops.toList []).getD c 0).testBit i = true := by
  unfold pinO at h
  rw [Bool.and_eq_true, Nat.blt_eq] at h
  exact h
def ordO (ops : Array Oper) (n c : Nat) : Bool :=
  ordB ops n && Nat.blt c n &&
  ((List.range n).all fun i => match ops[i]? with
    | some a => bif Nat.beq i c then isApp a else !(isApp a) && (pinO ops c i || (List.range n).all fun j => match ops[j]? with | some b => !(looksB ops a b.dst) | none => false)
    | none => false)
structure OrdO (ops : Array Oper) (n c : Nat) : Prop where
  b : OrdB ops n
  lt : c < n
  app : ∀ i a, i < n → ops[i]? = some a → isApp a = decide (i = c)
  free : ∀ i j a b, i < n → j < n → i ≠ c → pinO ops c i = false → ops[i]? = some a → ops[j]? = some b → looksB ops a b.dst = false
theorem ordO_spec {ops : Array Oper} {n c : Nat} (h : ordO ops n c = true) : OrdO ops n c := by
  simp only [ordO, Bool.and_eq_true] at h
  obtain ⟨⟨h1, h2⟩, h3⟩ := h
  have key : ∀ i a, i < n → ops[i]? = some a → (bif Nat.beq i c then isApp a else !(isApp a) && (pinO ops c i || (List.range n).all fun j => match ops[j]? with | some b => !(looksB ops a b.dst) | none => false)) = true := fun i a hi ha => by
    simp only [List.all_eq_true, List.mem_range] at h3
    have := h3 i hi
    rw [ha] at this
    simpa only [List.all_eq_true, List.mem_range] using this
  refine ⟨ordB_spec h1, by simpa [Nat.blt_eq] using h2, fun i a hi ha => ?_, fun i j a b hi hj hic hp ha hb => ?_⟩
  · have := key i a hi ha
    by_cases e : i = c
    · subst e; rw [Nat.beq_refl] at this; simpa using this
    · rw [beq_of_ne e] at this
      simp only [cond_false, Bool.and_eq_true, Bool.not_eq_true'] at this
      rw [this.1, decide_eq_false e]
  · have := key i a hi ha
    rw [beq_of_ne hic] at this
    simp only [cond_false, Bool.and_eq_true, Bool.not_eq_true', hp, Bool.false_or, List.all_eq_true, List.mem_range] at this
    have := this.2 j hj
    rw [hb] at this
    simpa using this

inductive PRunO (X : Ctx) (all : Array Oper) (K c : Nat) (s0 : St) : Nat → List Oper → St → St → Prop
  | nil {m : Nat} {s : St} : PRunO X all K c s0 m [] s s
  | reg {m : Nat} {o : Oper} {rest : List Oper} {s s' : St} {x : V} (hmc : m ≠ c) (hd : dstOk X.N o.dst = true) (h : ∀ s1 : St, (∀ t ∈ o.looksAt all, s1.tmps t = s.tmps t) → (pinO all c m = true → s1.blk = s0.blk) → M1 X all s1 o x) (hx : pinO all c m = true ∨ (x.noKey K = true ∧ ∀ t ∈ o.looksAt all, (s0.tmps t).noKey K = true)) (k : PRunO X all K c s0 (m + 1) rest (s.put o.dst x) s') : PRunO X all K c s0 m (o :: rest) s s'
  | app {m : Nat} {o : Oper} {rest : List Oper} {s s' : St} {d : Tmp} {x : V} {b : Blk} (hmc : m = c) (hd : o.dst = some d) (h : ∀ s1 : St, s1.blk = s0.blk → (∀ t ∈ o.looksAt all, s1.tmps t = s.tmps t) → E1 X all s1 o ((s1.new K b).put (some d) x)) (kk : PRunO X all K c s0 (m + 1) rest ((s.new K b).put (some d) x) s') : PRunO X all K c s0 m (o :: rest) s s'
inductive UpdOkO (X : Ctx) (all : Array Oper) (K c m : Nat) (s0 s : St) (o : Oper) : UpdA → Prop
  | reg {x : V} (hmc : m ≠ c) (hd : dstOk X.N o.dst = true) (h : ∀ s1 : St, (∀ t ∈ o.looksAt all, s1.tmps t = s.tmps t) → (pinO all c m = true → s1.blk = s0.blk) → M1 X all s1 o x) (hx : pinO all c m = true ∨ (x.noKey K = true ∧ ∀ t ∈ o.looksAt all, (s0.tmps t).noKey K = true)) : UpdOkO X all K c m s0 s o (.reg o.dst x)
  | app {d : Tmp} {x : V} {b : Blk} (hmc : m = c) (hd : o.dst = some d) (h : ∀ s1 : St, s1.blk = s0.blk → (∀ t ∈ o.looksAt all, s1.tmps t = s.tmps t) → E1 X all s1 o ((s1.new K b).put (some d) x)) : UpdOkO X all K c m s0 s o (.app d x K b)
theorem prunO_us {X : Ctx} {all : Array Oper} {K c : Nat} {s0 : St} : ∀ {l : List Oper} {m : Nat} {s s' : St}, PRunO X all K c s0 m l s s' → ∃ us : Nat → UpdA, s' = accA s us (fun _ => true) l.length ∧ ∀ i o, l[i]? = some o → UpdOkO X all K c (m + i) s0 (accA s us (fun _ => true) i) o (us i)
  | [], m, s, s', h => by
    cases h
    exact ⟨fun _ => .reg none (.d .undef), rfl, fun i o h => by simp at h⟩
  | o :: rest, m, s, s', h => by
    have shift : ∀ (u0 : UpdA) (us : Nat → UpdA) (m : Nat) (s0 : St), accA s0 (fun i => match i with | 0 => u0 | i + 1 => us i) (fun _ => true) (m + 1) = accA (apA s0 u0) us (fun _ => true) m := fun u0 us m s0 => by
      induction m with
      | zero => rfl
      | succ m ih => rw [accA, ih]; rfl
    have fin : ∀ (u0 : UpdA), UpdOkO X all K c m s0 s o u0 → PRunO X all K c s0 (m + 1) rest (apA s u0) s' → ∃ us : Nat → UpdA, s' = accA s us (fun _ => true) (o :: rest).length ∧ ∀ i o', (o :: rest)[i]? = some o' → UpdOkO X all K c (m + i) s0 (accA s us (fun _ => true) i) o' (us i) := fun u0 h0 hk => by
      obtain ⟨us, h1, h2⟩ := prunO_us hk
      refine ⟨fun i => match i with | 0 => u0 | i + 1 => us i, ?_, fun i o' hi => ?_⟩
      · rw [List.length_cons, shift, h1]
      · cases i with
        | zero => simp at hi; subst hi; exact h0
        | succ i => rw [shift, show m + (i + 1) = m + 1 + i by omega]; exact h2 i o' (by simpa using hi)
    cases h with
    | reg hmc hd hm hx hk => exact fin _ (.reg hmc hd hm hx) hk
    | app hmc hd hm kk => exact fin _ (.app hmc hd hm) kk
theorem accA_idle {s : St} {us : Nat → UpdA} {L : Nat → Bool} {t K : Nat} (h0 : (s.tmps t).noKey K = true) : ∀ n, (∀ i, i < n → (us i).dst ≠ some t) → (∀ i, i < n → ∀ d x k b, us i = .app d x k b → k = K) → (accA s us L n).tmps t = s.tmps t
  | 0, _, _ => rfl
  | n + 1, h1, h2 => by
    have ih := accA_idle (L := L) h0 n (fun i hi => h1 i (by omega)) (fun i hi => h2 i (by omega))
    simp only [accA]
    cases L n with
    | false => exact ih
    | true =>
      simp only [cond_true]
      have hd := h1 n (by omega)
      cases hu : us n with
      | reg d x => rw [hu] at hd; exact (put_tmps_ne hd).trans ih
      | app d x k b =>
        rw [hu] at hd
        have := h2 n (by omega) d x k b hu
        subst this
        simp only [apA]
        rw [put_tmps, if_neg (fun e => hd (by rw [e]; rfl)), new_tmps, ih, V.sub_noKey _ h0]
theorem awp_region_own {X : Ctx} (hm : X.P.follows .mixedOrders = true) {id : Nat} {ops : List Oper} (n c K : Nat) (hok : ordO ops.toArray n c = true) {Q : Exit → St → Prop} {s s1 : St} (hrun : PRunO X ops.toArray K c s 0 (ops.take n) s s1) (htail : awpL X ops.toArray (ops.drop n) Q s1) : awp X (.region id ops.toArray true) Q s := by
  have ho := ordO_spec hok
  have hf := ho.b
  obtain ⟨us, hs1, hx⟩ := prunO_us hrun
  have hle := hf.tf.le
  have hsz : ops.toArray.size = ops.length := rfl
  have getop : ∀ i, i < n → (ops.take n)[i]? = ops.toArray[i]? := fun i hi => by simp [List.getElem?_take, hi]
  have hlen : (ops.take n).length = n := by simp; omega
  rw [hlen] at hs1
  have ok : ∀ i o, i < n → ops.toArray[i]? = some o → UpdOkO X ops.toArray K c i s (accA s us (fun _ => true) i) o (us i) := fun i o hi ho => by
    have := hx i o (by rw [getop i hi]; exact ho)
    rwa [Nat.zero_add] at this
  have getn : ∀ j, j < n → ∃ o, ops.toArray[j]? = some o := fun j hj => ⟨_, Array.getElem?_eq_getElem (by omega)⟩
  have dstOf : ∀ i o, i < n → ops.toArray[i]? = some o → (us i).dst = o.dst := fun i o hi ho => by
    have := ok i o hi ho
    generalize us i = u at this
    cases this with
    | reg => rfl
    | app _ hd => exact hd.symm
  have isc : ∀ i, i < n → ((us i).isApp = true ↔ i = c) := fun i hi => by
    obtain ⟨o, ho⟩ := getn i hi
    have := ok i o hi ho
    generalize us i = u at this
    cases this with
    | reg hmc => exact ⟨fun e => by simp [UpdA.isApp] at e, fun e => absurd e hmc⟩
    | app hmc => exact ⟨fun _ => hmc, fun _ => rfl⟩
  have appk : ∀ i, i < n → ∀ d x k b, us i = .app d x k b → k = K := fun i hi d x k b hu => by
    obtain ⟨o, ho⟩ := getn i hi
    have := ok i o hi ho
    rw [hu] at this
    cases this with
    | app => rfl
  have full : ∀ i, i ≤ n → accA s us (fun _ => true) i = accA s us (fun j => decide (j < i)) n := fun i hi => by
    have h1 : accA s us (fun _ => true) i = accA s us (fun j => decide (j < i)) i := accA_congr i fun j hj => by simp [hj]
    have h2 : ∀ m, i ≤ m → m ≤ n → accA s us (fun j => decide (j < i)) m = accA s us (fun j => decide (j < i)) i := by
      intro m
      induction m with
      | zero => intro h1 _; obtain rfl : i = 0 := by omega
                rfl
      | succ m ih =>
        intro h1 h2
        by_cases e : i = m + 1
        · rw [e]
        · simp only [accA]; rw [ih (by omega) (by omega)]; simp [show ¬ m < i by omega]
    rw [h1, h2 n hi (Nat.le_refl _)]
  refine awp_region_gen hm n hf.tf (fun L => accA s us L n) (s1 := s1) ?_ (fun L h1 h2 => ?_) (fun L i o hi ho' hLi hLn hLp hLc => ?_) htail
  · have : ∀ m, accA s us (fun _ => false) m = s := by
      intro m
      induction m with
      | zero => rfl
      | succ m ih => simp only [accA, cond_false]; exact ih
    exact this n
  · rw [hs1]
    exact accA_congr n fun j hj => h1 j hj
  · have pinc : pinO ops.toArray c i = true → L c = false ∧ i < c := fun hp => by
      refine ⟨?_, ?_⟩
      · cases hL : L c with
        | false => rfl
        | true =>
          have := hLc c hL i (pinO_lt hp).2
          rw [hLi] at this; cases this
      · exact (pinO_lt hp).1
    have diff : ∀ j b, j < n → ops.toArray[j]? = some b → conflB ops.toArray b o = true ∨ conflB ops.toArray o b = true → L j = decide (j < i) := fun j b hj hb hc => by
      have sym : conflB ops.toArray b o = true ∧ conflB ops.toArray o b = true := by
        have : conflB ops.toArray b o = conflB ops.toArray o b := by
          unfold conflB
          rw [Bool.or_comm (looksB ops.toArray o b.dst)]
          congr 1
          cases b.dst <;> cases o.dst <;> simp [Bool.beq_comm, eq_comm]
        rw [this] at hc ⊢
        simpa using hc
      rcases Nat.lt_trichotomy j i with h | h | h
      · rw [decide_eq_true h]; exact hLp j h (hf.ord j i b o h hi hb ho' sym.1)
      · subst h; rw [hLi, decide_eq_false (by omega)]
      · rw [decide_eq_false (by omega)]
        cases hL : L j with
        | false => rfl
        | true =>
          have := hLc j hL i (hf.ord i j o b h hj ho' hb sym.2)
          rw [hLi] at this; cases this
    have regK : ∀ j, j < n → ∀ d x, us j = .reg d x → pinO ops.toArray c j = false → x.noKey K = true := fun j hj d x hu hp => by
      obtain ⟨b, hb⟩ := getn j hj
      have := ok j b hj hb
      rw [hu] at this
      cases this with
      | reg _ _ _ hx => exact (hx.resolve_left (by rw [hp]; decide)).1
    have hins : accA s us (insL L i) n = apA (accA s us L n) (us i) := accA_insert hLi n hi fun j hij hjn hLj s0 => by
      obtain ⟨b, hb⟩ := getn j hjn
      have hnc : conflB ops.toArray o b = false := by
        cases hc : conflB ops.toArray o b with
        | false => rfl
        | true =>
          have := hLc j hLj i (hf.ord i j o b hij hjn ho' hb hc)
          rw [hLi] at this; cases this
      simp only [conflB, Bool.or_eq_false_iff] at hnc
      obtain ⟨_, h3⟩ := hnc
      have hd : ∀ t, (us i).dst = some t → (us j).dst ≠ some t := fun t e1 e2 => by
        rw [dstOf i o hi ho'] at e1
        rw [dstOf j b hjn hb] at e2
        rw [e1, e2] at h3
        simp at h3
      have hap : ¬ ((us i).isApp = true ∧ (us j).isApp = true) := fun ⟨e1, e2⟩ => by
        have := (isc i hi).1 e1
        have := (isc j hjn).1 e2
        omega
      cases hui : us i with
      | reg d x =>
        rw [hui] at hd
        cases huj : us j with
        | reg d' x' => rw [huj] at hd; simp only [apA]; exact put_comm hd
        | app d' x' k' b' =>
          rw [huj] at hd
          have e := appk j hjn d' x' k' b' huj
          subst e
          have ejc : j = c := (isc j hjn).1 (by rw [huj]; rfl)
          have hp : pinO ops.toArray c i = false := by
            cases hp : pinO ops.toArray c i with
            | false => rfl
            | true =>
              have := (pinc hp).1
              rw [← ejc, hLj] at this; cases this
          simp only [apA]
          rw [new_put (regK i hi d x hui hp)]
          exact put_comm (d := d) (d' := some d') hd
      | app d x k' b' =>
        rw [hui] at hd hap
        have e := appk i hi d x k' b' hui
        subst e
        have eic : i = c := (isc i hi).1 (by rw [hui]; rfl)
        cases huj : us j with
        | reg d' x' =>
          rw [huj] at hd
          have hp : pinO ops.toArray c j = false := by
            cases hp : pinO ops.toArray c j with
            | false => rfl
            | true =>
              have := (pinO_lt hp).1
              omega
          simp only [apA]
          rw [new_put (regK j hjn d' x' huj hp)]
          exact put_comm (d := some d) (d' := d') hd
        | app d' x' k'' b'' => rw [huj] at hap; exact absurd ⟨rfl, rfl⟩ hap
    show E1 X ops.toArray (accA s us L n) o (accA s us (insL L i) n)
    rw [hins]
    have hoki := ok i o hi ho'
    have tmB : L c = decide (c < i) → ∀ t ∈ o.looksAt ops.toArray, (accA s us L n).tmps t = (accA s us (fun _ => true) i).tmps t := fun hLce t ht => by
      rw [full i (by omega)]
      refine accA_app n (fun j hj hu => ?_) fun j hj hu => ?_
      · obtain ⟨b, hb⟩ := getn j hj
        have hbd : b.dst = some t := by rw [← dstOf j b hj hb]; exact hu
        exact diff j b hj hb (.inl (by simp [conflB, hbd, looksB_of ht]))
      · have := (isc j hj).1 hu
        subst this; exact hLce
    have blk0 : ∀ (L' : Nat → Bool), L' c = false → ∀ m, m ≤ n → (accA s us L' m).blk = s.blk := fun L' hL' m hm' => by
      have := accA_blk (s := s) (us := us) (L := L') (L' := fun _ => false) m fun j hj hu => by
        have := (isc j (by omega)).1 hu
        subst this; exact hL'
      rw [this]
      have : ∀ m, accA s us (fun _ => false) m = s := by
        intro m
        induction m with
        | zero => rfl
        | succ m ih => simp only [accA, cond_false]; exact ih
      rw [this]
    cases hui : us i with
    | reg d x =>
      rw [hui] at hoki
      cases hoki with
      | reg hmc hd h hxx =>
        refine (h (accA s us L n) ?_ fun hp => ?_).e1 hd
        · cases hp : pinO ops.toArray c i with
          | true =>
            obtain ⟨q1, q2⟩ := pinc hp
            exact tmB (by rw [q1, decide_eq_false (by omega)])
          | false =>
            intro t ht
            have h0 := (hxx.resolve_left (by rw [hp]; decide)).2 t ht
            have idle : ∀ (L' : Nat → Bool) m, m ≤ n → (accA s us L' m).tmps t = s.tmps t := fun L' m hm' => accA_idle h0 m (fun j hj hu => by
              obtain ⟨b, hb⟩ := getn j (by omega)
              have := ho.free i j o b hi (by omega) hmc hp ho' hb
              rw [← dstOf j b (by omega) hb, hu, looksB_of ht] at this
              cases this) (fun j hj => appk j (by omega))
            rw [idle L n (Nat.le_refl _), idle _ i (by omega)]
        · exact blk0 L (pinc hp).1 n (Nat.le_refl _)
    | app d x k b =>
      rw [hui] at hoki
      cases hoki with
      | app hmc hd h =>
        subst hmc
        refine h (accA s us L n) (blk0 L hLi n (Nat.le_refl _)) (tmB (by rw [hLi, decide_eq_false (by omega)]))

def awpO (K c : Nat) (s0 : St) (m : Nat) (X : Ctx) (all : Array Oper) (pre rest : List Oper) (Q : Exit → St → Prop) (s : St) : Prop := ∃ s1, PRunO X all K c s0 m pre s s1 ∧ awpL X all rest Q s1
section
variable {X : Ctx} {all : Array Oper} {Q : Exit → St → Prop} {s s0 : St} {o : Oper} {pre rest : List Oper} {K c m : Nat}
theorem awpO_nil (h : awpL X all rest Q s) : awpO K c s0 m X all [] rest Q s := ⟨s, .nil, h⟩
theorem nb_ne {m c : Nat} (h : Nat.beq m c = false) : m ≠ c := fun e => by subst e; rw [Nat.beq_refl] at h; cases h
theorem stepOP {d : Tmp} {C : Prop} {x : V} (mm : Bool) (hk : Nat.beq (opK o.op) 0 = true) (hmc : Nat.beq m c = false) (hp : pinO all c m = true) (hg : gd all s o = some true) (hdst : o.dst = some d) (hd : dstOk X.N (some d) = true) (hq : evalF X.T mm s o.op = some (C, x)) (hC : C) (hfr : (isMove o || isSl o || isLoad o) = true) (hb : s.blk = s0.blk) (k : awpO K c s0 (m + 1) X all pre rest Q (s.put (some d) x)) : awpO K c s0 m X all (o :: pre) rest Q s := by
  rw [← hdst] at hd k
  obtain ⟨s1, h1, h2⟩ := k
  refine ⟨s1, .reg (nb_ne hmc) hd (fun s' hs' hb' => m_q mm ((gd_agree hs').trans hg) ?_ hC) (.inl hp) h1, h2⟩
  rw [evalF_eq] at hq ⊢
  rw [Bool.or_eq_true, Bool.or_eq_true] at hfr
  rcases hfr with (hfr | hfr) | hfr
  · rw [evalQ_move hfr hs']; exact hq
  · rw [evalQ_slice hfr hs']; exact hq
  · exact evalQ_load hfr hq hs' fun k b _ hbk => by rw [hb' hp, ← hb]; exact hbk
theorem stepOF {d : Tmp} {C : Prop} {x : V} (mm : Bool) (hk : Nat.beq (opK o.op) 0 = true) (hmc : Nat.beq m c = false) (hg : gd all s o = some true) (hdst : o.dst = some d) (hd : dstOk X.N (some d) = true) (hq : evalF X.T mm s o.op = some (C, x)) (hC : C) (hfr : (isMove o || isSl o) = true) (hx : x.noKey K = true) (hl : ((o.looksAt all).all fun t => (s0.tmps t).noKey K) = true) (k : awpO K c s0 (m + 1) X all pre rest Q (s.put (some d) x)) : awpO K c s0 m X all (o :: pre) rest Q s := by
  rw [← hdst] at hd k
  obtain ⟨s1, h1, h2⟩ := k
  refine ⟨s1, .reg (nb_ne hmc) hd (fun s' hs' hb' => m_q mm ((gd_agree hs').trans hg) ?_ hC) (.inr ⟨hx, fun t ht => by rw [List.all_eq_true] at hl; exact hl t ht⟩) h1, h2⟩
  rw [evalF_eq] at hq ⊢
  rw [Bool.or_eq_true] at hfr
  rcases hfr with hfr | hfr
  · rw [evalQ_move hfr hs']; exact hq
  · rw [evalQ_slice hfr hs']; exact hq
theorem stepOLit {d : Tmp} {e : TypeId} {sz len : Nat} {rows : List (List D)} (hkk : Nat.beq (opK o.op) 5 = true) (hmc : Nat.beq m c = false) (hp : pinO all c m = true) (h : evalB X.T s o.op = some (e, sz, len, rows)) (hdst : o.dst = some d) (hg : gd all s o = some true) (hd : dstOk X.N (some d) = true) (k : awpO K c s0 (m + 1) X all pre rest Q (s.put (some d) (.d (.sl sz (nth [] rows) 0 (iota len 0))))) : awpO K c s0 m X all (o :: pre) rest Q s := by
  rw [← hdst] at hd k
  obtain ⟨s1, h1, h2⟩ := k
  refine ⟨s1, .reg (nb_ne hmc) hd (fun s' hs' _ => m_lit (e := e) X.ok ((gd_agree hs').trans hg) ?_) (.inl hp) h1, h2⟩
  have hop := fun y hy => opd_agree (s := s) (s' := s') (o := o) (all := all) (y := y) hy hs'
  revert h
  cases he : o.op with
  | buildSlice t n parts =>
    rw [he] at hop
    have e1 : (parts.toList.map fun p => (p.1, s'.opd p.2)) = parts.toList.map fun p => (p.1, s.opd p.2) := List.map_congr_left fun p hp => by
      rw [hop p.2 (by simp only [Op.operands]; simp; exact ⟨p.1, by simpa using hp⟩)]
    simp only [evalB, e1]
    exact id
  | _ => intro h; cases h
theorem clO {cl : Call} {caps : List V} {ds ds' : List D} {d : Tmp} {r : D} (f : FuncId) (hr : Ret X.P f ds' (· = r)) (hmc : Nat.beq m c = false) (hp : pinO all c m = true) (hop : o.op = .call cl) (hc : calleeOf s cl = some (f, caps)) (hdst : o.dst = some d) (hg : gd all s o = some true) (hd : dstOk X.N (some d) = true) (ha : allD (cl.args.toList.map s.opd ++ caps) = some ds) (le : LeT ds ds') (k : awpO K c s0 (m + 1) X all pre rest Q (s.put (some d) (.d r))) : awpO K c s0 m X all (o :: pre) rest Q s := by
  rw [← hdst] at hd k
  obtain ⟨s1, h1, h2⟩ := k
  refine ⟨s1, .reg (nb_ne hmc) hd (fun s' hs' hb' => ?_) (.inl hp) h1, h2⟩
  obtain ⟨e1, e2⟩ := callee_agree (s := s) hop hs'
  exact m_callR ((gd_agree hs').trans hg) hop (e1.trans hc) (by rw [e2]; exact ha) le hr
theorem stepOApp {d : Tmp} {td ed : TyD} {α : Type} {en : α → List D} {z : α} {l l2 : List α} {t : TypeId} {cl : Call} {x y : Operand} {e : TypeId} {n : Nat} (hkk : Nat.beq (opK o.op) 3 = true) (hmc : Nat.beq m c = true) (hop : o.op = .call cl) (hc : cl = ⟨.builtin .append, #[x, y], #[t, t]⟩) (hdst : o.dst = some d) (hg : gd all s o = some true) (hd : dstOk X.N (some d) = true) (ht : X.T t = some td) (hds : td.desc = .slice e) (he : X.T e = some ed) (hx : s.opd x = .own K 0 n e ed.size) (hK : X.K.contains K = false) (hb0 : s.blk = s0.blk) (hk : s.blk K = some (.data e ed.size en z l)) (hz : zeroOk ed = true) (hn : n = l.length) (hy : SrcB X s.blk (s.opd y) ed.size en z l2) (hb : l.length + l2.length ≤ 9223372036854775807 ∧ (l.length + l2.length) * ed.bytes ≤ 140737488355328) (r : awpO K c s0 (m + 1) X all pre rest Q ((s.new K (.data e ed.size en z (l ++ l2))).put (some d) (.own K 0 (l ++ l2).length e ed.size))) : awpO K c s0 m X all (o :: pre) rest Q s := by
  obtain ⟨dst, op, ty, pos, after, g⟩ := o
  cases hop; cases hdst; subst hc
  obtain ⟨s1, h1, h2⟩ := r
  refine ⟨s1, .app (Nat.eq_of_beq_eq_true hmc) rfl (fun s' hb' htm => ?_) h1, h2⟩
  rw [← hb0] at hb'
  have e2 := opd_agree (o := ⟨some d, .call ⟨.builtin .append, #[x, y], #[t, t]⟩, ty, pos, after, g⟩) (all := all) (y := y) (by simp [Op.operands, Call.operands]) htm
  exact e_append X.ok ((gd_agree htm).trans hg) hd ht hds he hK ((opd_agree (by simp [Op.operands, Call.operands]) htm).trans hx) (by rw [hb']; exact hk) hn (by rw [e2]; exact hy s' hb') hz hb
theorem goO {G : Prop} {ops : List Oper} (k : G) (h : G → awpO K c s0 m X all ops rest Q s := by
  first
  | exact Go.Vw.stepOF true Go.Vw.tt Go.Vw.ff Go.Vw.stt rfl rfl rfl Go.Vw.sc rfl rfl rfl
  | exact Go.Vw.stepOP true Go.Vw.tt Go.Vw.ff (by kernel_rfl) Go.Vw.stt rfl rfl rfl Go.Vw.sc rfl rfl
  | exact Go.Vw.awpO_nil
  | exact Go.Vw.stepOP false Go.Vw.tt Go.Vw.ff (by kernel_rfl) Go.Vw.stt rfl rfl rfl Go.Vw.sc rfl rfl
  | exact Go.Vw.stepOLit Go.Vw.tt Go.Vw.ff (by kernel_rfl) rfl rfl rfl rfl
  | exact Go.Vw.stepOApp Go.Vw.tt Go.Vw.tt rfl rfl rfl rfl rfl rfl rfl rfl rfl rfl rfl rfl rfl rfl Go.Vw.srcB Go.Vw.sc
  | fail) : awpO K c s0 m X all ops rest Q s := h k
theorem awp_regO (id n c K : Nat) {ops : List Oper} (h : awpO K c s 0 X ops.toArray (ops.take n) (ops.drop n) Q s) (hm : X.P.follows .mixedOrders = true) (hok : ordO ops.toArray n c = true) : awp X (.region id ops.toArray true) Q s := by
  obtain ⟨s1, h1, h2⟩ := h
  exact awp_region_own hm n c K hok h1 h2
end
end Go.Vw

/-
  The program's reader of right sides: factors. Conditions: as each says.
-/
set_option maxHeartbeats 8000000
namespace Go.Proofs.Ytjooknpgcjicbaa
open Go.Vw
attribute [local irreducible] awp awpL awpR

abbrev exT : TypeId := 57
abbrev xB (e : List Nd) (fs : List Fc) : List (Nat × Blk) := [(17, .box exT [.d (ndsD e), .own 601 0 fs.length fcT 2]), (601, .data fcT 2 fcC fc0 fs)]
theorem shl_val {i : Nat} (h : i < 64) : (1 * 2 ^ ((i : Int)).toNat % 18446744073709551616 : Int) = ((2 ^ i : Nat) : Int) := by
  have h2 : 2 ^ i < 18446744073709551616 := Nat.pow_lt_pow_right (a := 2) (m := i) (n := 64) (by decide) h
  rw [Int.toNat_natCast, Int.one_mul, show ((2 : Int) ^ i) = ((2 ^ i : Nat) : Int) by rw [Int.natCast_pow]; rfl]
  exact Int.emod_eq_of_lt (Int.natCast_nonneg _) (Int.ofNat_lt.2 h2)
theorem terms_factorM (e : List Nd) (fs : List Fc) (f : Fc) (hl : (addF fs f).length ≤ 64) : RetM Try.prog 89 [601] [.ptr 17 0, .d (fcD f)] (lookB (xB e fs)) (.d (tsD [2 ^ ((addF fs f).idxOf f)])) (lookB (xB e (addF fs f))) := by
  have ix := slices_IndexF fs f (by have := (addF_pre fs f).length_le; omega)
  unfold plc at ix
  unfold addF at hl ⊢
  by_cases hm : f ∈ fs
  · rw [if_pos hm] at ix hl ⊢
    have hi := List.idxOf_lt_length_of_mem hm
    generalize fs.idxOf f = i at *
    clear hm
    refine retM_of_awp tab [17] [601] Try.func89 rfl rfl rfl (Nat.le_of_ble_eq_true rfl) rfl (⟨.inr (Nat.le_refl _), .inr (Nat.le_refl _), trivial⟩) (fun w0 F0 A io0 => ?_)
    repeat' (first | refine wG ?_ | refine wC ix ?_ | refine rg 1 5 ?_ | refine rg 4 8 ?_ | refine wR ?_ | refine wS ?_ ?_ <;> intro _ | refine wB ?_ ?_ | refine wF ?_)
    · show LeVT [.d (.sl 1 (nth [] [[.int .u64 (1 * 2 ^ ((i : Int)).toNat % 18446744073709551616)]]) 0 (iota 1 0))] _
      rw [shl_val (by omega)]
      exact leVT
    · exact ⟨rfl, rfl, trivial⟩
  · rw [if_neg hm] at ix hl ⊢
    rw [List.length_append, List.length_singleton] at hl
    have hi : (fs ++ [f]).idxOf f = fs.length := by
      rw [List.idxOf_append, if_neg hm]; simp
    rw [hi]
    clear hm hi
    refine retM_of_awp tab [17] [601] Try.func89 rfl rfl rfl (Nat.le_of_ble_eq_true rfl) rfl (⟨.inr (Nat.le_refl _), .inl rfl, trivial⟩) (fun w0 F0 A io0 => ?_)
    repeat' (first | refine wG ?_ | refine wC ix ?_ | refine awp_regO 4 8 7 601 ?_ mixed (by kernel_rfl) | (show awpO _ _ _ _ _ _ _ _ _ _; first | refine goO ?_ | refine clO 77 (hr := ix) ff (by kernel_rfl) rfl rfl rfl rfl rfl rfl leT ?_) | refine rg 1 5 ?_ | refine rg 4 8 ?_ | refine wR ?_ | refine wS ?_ ?_ <;> intro _ | refine wB ?_ ?_ | refine wF ?_)
    · show LeVT [.d (.sl 1 (nth [] [[.int .u64 (1 * 2 ^ ((fs.length : Int)).toNat % 18446744073709551616)]]) 0 (iota 1 0))] _
      rw [shl_val (by omega)]
      exact leVT
    · exact ⟨rfl, rfl, trivial⟩
end Go.Proofs.Ytjooknpgcjicbaa

/-
  Contracts of functions of bytes and names. Conditions: none.
-/
set_option maxHeartbeats 8000000
namespace Go.Proofs.Ytjooknpgcjicbaa
open Go.Vw
attribute [local irreducible] awp awpL awpR

theorem table_letter (c : UInt8) : Ret Try.prog 76 [bD c] (· = .bool (isLet c)) := by
  rw [isLet_nat]
  refine ret_of_awp tab Try.func76 rfl rfl (Nat.le_of_ble_eq_true rfl) (fun w0 F0 => ?_)
  repeat' (first | refine wG ?_ | refine wR ?_ | refine wS ?_ ?_ <;> intro _ | refine finG ?_)
  all_goals (refine congrArg D.bool ?_; rw [Bool.eq_iff_iff]; simp; omega)
theorem ref08_Letter (c : UInt8) : Ret Try.prog 81 [bD c] (· = .bool (isLet c)) := by
  rw [isLet_nat]
  refine ret_of_awp tab Try.func81 rfl rfl (Nat.le_of_ble_eq_true rfl) (fun w0 F0 => ?_)
  repeat' (first | refine wG ?_ | refine wR ?_ | refine wS ?_ ?_ <;> intro _ | refine finG ?_)
  all_goals (refine congrArg D.bool ?_; rw [Bool.eq_iff_iff]; simp; omega)
theorem ref08_Inner (c : UInt8) : Ret Try.prog 82 [bD c] (· = .bool (isInn c)) := by
  have h1 := ref08_Letter c
  rw [isInn_nat, isDig_nat]
  generalize isLet c = a at *
  cases a
  all_goals
    refine ret_of_awp tab Try.func82 rfl rfl (Nat.le_of_ble_eq_true rfl) (fun w0 F0 => ?_)
    repeat' (first | refine wG ?_ | refine wC h1 ?_ | refine wR ?_ | refine wS ?_ ?_ <;> intro _ | refine finG ?_)
    all_goals first | rfl | (refine congrArg D.bool ?_; rw [Bool.eq_iff_iff]; simp; omega) | (refine congrArg D.bool ?_; simp)
end Go.Proofs.Ytjooknpgcjicbaa

/-
  Contracts of the library's functions that the formulas call. Conditions: as each says.
-/
set_option maxHeartbeats 8000000
namespace Go.Proofs.Ytjooknpgcjicbaa
open Go.Vw
attribute [local irreducible] awp awpL awpR

@[reducible] def sC (s : List UInt8) : List D := [.str s]
abbrev ndT : TypeId := 39
@[reducible] def nlC (l : List Nd) : List D := [ndsD l]
abbrev nlD (L : List (List Nd)) : D := .sl 1 nlC [] L
theorem take_flat {L : List (List Nd)} {i : Nat} (h : i < L.length) : (L.take (i + 1)).flatten = (L.take i).flatten ++ L.getD i [] := by
  rw [List.take_add_one, List.flatten_append, List.getD_eq_getElem?_getD, List.getElem?_eq_getElem h]; simp
theorem flat_le (L : List (List Nd)) (i : Nat) : (L.take i).flatten.length ≤ L.flatten.length := by
  conv => rhs; rw [← List.take_append_drop i L, List.flatten_append, List.length_append]
  omega
end Go.Proofs.Ytjooknpgcjicbaa

/-
  Contracts of the two that tell names. Conditions: none.
-/
set_option maxHeartbeats 8000000
namespace Go.Proofs.Ytjooknpgcjicbaa
open Go.Vw
attribute [local irreducible] awp awpL awpR

theorem table_Name (s : List UInt8) : Ret Try.prog 40 [.str s] (· = .bool (isName s)) := by
  by_cases h1 : s = []
  · rw [name_bad (.inl h1)]
    subst h1
    refine ret_of_awp tab Try.func40 rfl rfl (Nat.le_of_ble_eq_true rfl) (fun w0 F0 => ?_)
    repeat' (first | refine wG ?_ | refine wR ?_ | refine wS ?_ ?_ <;> intro _ | refine finG ?_)
    rfl
  have l1 : 1 ≤ s.length := List.length_pos_iff.2 h1
  have tl := table_letter (s.getD 0 0)
  by_cases h2 : s.length ≤ 32
  case neg =>
    rw [name_bad (.inr (.inl (by omega)))]
    refine ret_of_awp tab Try.func40 rfl rfl (Nat.le_of_ble_eq_true rfl) (fun w0 F0 => ?_)
    repeat' (first | refine wG ?_ | refine wR ?_ | refine wS ?_ ?_ <;> intro _ | refine finG ?_)
    rfl
  by_cases h3 : isLet (s.getD 0 0) = true
  case neg =>
    have h3 := Bool.eq_false_iff.2 h3
    rw [name_bad (.inr (.inr (.inl h3)))]
    rw [h3] at tl
    refine ret_of_awp tab Try.func40 rfl rfl (Nat.le_of_ble_eq_true rfl) (fun w0 F0 => ?_)
    repeat' (first | refine wG ?_ | refine wC tl ?_ | refine wR ?_ | refine wS ?_ ?_ <;> intro _ | refine finG ?_)
    rfl
  rw [h3] at tl
  by_cases h4 : s = pwB
  · rw [name_bad (.inr (.inr (.inr h4)))]
    refine ret_of_awp tab Try.func40 rfl rfl (Nat.le_of_ble_eq_true rfl) (fun w0 F0 => ?_)
    repeat' (first | refine wG ?_ | refine wC tl ?_ | refine wR ?_ | refine wS ?_ ?_ <;> intro _ | refine finG ?_)
    · rfl
    · exact absurd h4 ‹¬ s = _›
  rw [name_good h1 h2 h3 h4]
  have hle := runE_le isInn (t := s) (i := 0) (Nat.zero_le _)
  have hin := fun j (h : j < runE isInn s 0) => runE_in isInn (t := s) (i := 0) (Nat.zero_le j) h
  have hst := fun h => runE_stop isInn (t := s) (i := 0) h
  generalize runE isInn s 0 = n at *
  have hlt := fun i => table_letter (s.getD i 0)
  refine ret_of_awp tab Try.func40 rfl rfl (Nat.le_of_ble_eq_true rfl) (fun w0 F0 => ?_)
  repeat' (first | refine wG ?_ | refine wC tl ?_ | refine wR ?_ | refine wS ?_ ?_ <;> intro _ | refine finG ?_)
  · exact absurd ‹s = _› h4
  refine awp_loop1 (fun (i : Nat) => ([(23, .d (.sl 1 eB 0 s)), (24, .d (.int .i64 s.length)), (25, .d (.int .i64 i))], [])) (fun i => i ≤ n) (fun i => n - i) 0 (by omega) ⟨rfl, rfl, rfl, rfl⟩ trivial (fun i hi => ?_)
  have c := hlt i
  clear hlt
  by_cases g : i < n
  · have q := hin i g
    rw [isInn_nat, isDig_nat] at q
    generalize isLet (s.getD i 0) = a at *
    have r := u8_rng (s.getD i 0)
    clear hin hst h3
    cases a
    · simp only [Bool.false_or, Bool.or_eq_true, Bool.and_eq_true, decide_eq_true_eq] at q
      repeat' (first | refine wG ?_ | refine wC c ?_ | refine wR ?_ | refine wS ?_ ?_ <;> intro _ | refine finG ?_)
      all_goals exact ⟨i + 1, by omega, by omega, ⟨rfl, rfl, iv (by omega), rfl⟩, trivial⟩
    · repeat' (first | refine wG ?_ | refine wC c ?_ | refine wR ?_ | refine wS ?_ ?_ <;> intro _ | refine finG ?_)
      all_goals exact ⟨i + 1, by omega, by omega, ⟨rfl, rfl, iv (by omega), rfl⟩, trivial⟩
  · have e : i = n := by omega
    subst e
    by_cases hn : i = s.length
    · rw [decide_eq_true hn]
      repeat' (first | refine wG ?_ | refine wR ?_ | refine wS ?_ ?_ <;> intro _ | refine finG ?_)
      rfl
    · rw [decide_eq_false hn]
      have q := hst (by omega)
      rw [isInn_nat, isDig_nat] at q
      generalize isLet (s.getD i 0) = a at *
      have r := u8_rng (s.getD i 0)
      clear hin hst h3
      cases a
      · simp only [Bool.false_or, Bool.or_eq_false_iff, Bool.and_eq_false_iff, decide_eq_false_iff_not] at q
        repeat' (first | refine wG ?_ | refine wC c ?_ | refine wR ?_ | refine wS ?_ ?_ <;> intro _ | refine finG ?_)
        all_goals rfl
      · simp at q
theorem ref08_Name (s : List UInt8) : Ret Try.prog 46 [.str s] (· = .bool (isName s)) := by
  by_cases h1 : s = []
  · rw [name_bad (.inl h1)]
    subst h1
    refine ret_of_awp tab Try.func46 rfl rfl (Nat.le_of_ble_eq_true rfl) (fun w0 F0 => ?_)
    repeat' (first | refine wG ?_ | refine wR ?_ | refine wS ?_ ?_ <;> intro _ | refine finG ?_)
    rfl
  have l1 : 1 ≤ s.length := List.length_pos_iff.2 h1
  have tl := ref08_Letter (s.getD 0 0)
  by_cases h2 : s.length ≤ 32
  case neg =>
    rw [name_bad (.inr (.inl (by omega)))]
    refine ret_of_awp tab Try.func46 rfl rfl (Nat.le_of_ble_eq_true rfl) (fun w0 F0 => ?_)
    repeat' (first | refine wG ?_ | refine wR ?_ | refine wS ?_ ?_ <;> intro _ | refine finG ?_)
    rfl
  by_cases h3 : isLet (s.getD 0 0) = true
  case neg =>
    have h3 := Bool.eq_false_iff.2 h3
    rw [name_bad (.inr (.inr (.inl h3)))]
    rw [h3] at tl
    refine ret_of_awp tab Try.func46 rfl rfl (Nat.le_of_ble_eq_true rfl) (fun w0 F0 => ?_)
    repeat' (first | refine wG ?_ | refine wC tl ?_ | refine wR ?_ | refine wS ?_ ?_ <;> intro _ | refine finG ?_)
    rfl
  rw [h3] at tl
  by_cases h4 : s = pwB
  · rw [name_bad (.inr (.inr (.inr h4)))]
    refine ret_of_awp tab Try.func46 rfl rfl (Nat.le_of_ble_eq_true rfl) (fun w0 F0 => ?_)
    repeat' (first | refine wG ?_ | refine wC tl ?_ | refine wR ?_ | refine wS ?_ ?_ <;> intro _ | refine finG ?_)
    · rfl
    · exact absurd h4 ‹¬ s = _›
  rw [name_good h1 h2 h3 h4]
  have h0 := runE_step (p := isInn) (t := s) (i := 0) (by omega) (isLet_inn h3)
  have hge := runE_ge isInn s (0 + 1)
  have hle := runE_le isInn (t := s) (i := 0) (Nat.zero_le _)
  have hin := fun j (h : j < runE isInn s 0) => runE_in isInn (t := s) (i := 0) (Nat.zero_le j) h
  have hst := fun h => runE_stop isInn (t := s) (i := 0) h
  rw [h0] at hge
  generalize runE isInn s 0 = n at *
  have hlt := fun i => ref08_Inner (s.getD i 0)
  clear h0
  refine ret_of_awp tab Try.func46 rfl rfl (Nat.le_of_ble_eq_true rfl) (fun w0 F0 => ?_)
  repeat' (first | refine wG ?_ | refine wC tl ?_ | refine wR ?_ | refine wS ?_ ?_ <;> intro _ | refine finG ?_)
  · exact absurd ‹s = _› h4
  refine awp_loop1 (fun (i : Nat) => ([(0, .d (.str s)), (3, .d (.int .i64 i))], [])) (fun i => i ≤ n) (fun i => n - i) 1 (by omega) ⟨rfl, rfl, rfl⟩ trivial (fun i hi => ?_)
  have c := hlt i
  clear hlt
  by_cases g : i < n
  · rw [hin i g] at c
    clear hin hst h3
    repeat' (first | refine wG ?_ | refine wC c ?_ | refine wR ?_ | refine wS ?_ ?_ <;> intro _ | refine finG ?_)
    exact ⟨i + 1, by omega, by omega, ⟨rfl, iv (by omega), rfl⟩, trivial⟩
  · have e : i = n := by omega
    subst e
    by_cases hn : i = s.length
    · rw [decide_eq_true hn]
      repeat' (first | refine wG ?_ | refine wR ?_ | refine wS ?_ ?_ <;> intro _ | refine finG ?_)
      rfl
    · rw [decide_eq_false hn]
      rw [hst (by omega)] at c
      clear hin hst h3
      repeat' (first | refine wG ?_ | refine wC c ?_ | refine wR ?_ | refine wS ?_ ?_ <;> intro _ | refine finG ?_)
      rfl
end Go.Proofs.Ytjooknpgcjicbaa

/-
  Valid formulas, by the program and by the reference. Conditions: not too many nodes.
-/
set_option maxHeartbeats 8000000
namespace Go.Proofs.Ytjooknpgcjicbaa
open Go.Vw
attribute [local irreducible] awp awpL awpR

abbrev ndA (n : Nd) : D := .agg [.int .i64 n.1, .str n.2.1, .int .i64 n.2.2]
theorem formula_operands (n : Nd) : Ret Try.prog 58 [ndA n] (· = .int .i64 (opI n)) := by
  obtain ⟨op, s, k⟩ := n
  have tn := table_Name s
  unfold opI leafB? ndA
  simp only
  generalize isName s = b at *
  refine ret_of_awp tab Try.func58 rfl rfl (Nat.le_of_ble_eq_true rfl) (fun w0 F0 => ?_)
  repeat' (first | refine wG ?_ | refine wC tn ?_ | refine wR ?_ | refine wS ?_ ?_ <;> intro _ | refine finG ?_)
  all_goals (refine congrArg (D.int .i64) ?_; simp_all <;> ((repeat' split) <;> omega))
theorem ref_Arity (op : Int) : Ret Try.prog 72 [.int .i64 op] (· = .int .i64 (arity op)) := by
  unfold arity
  refine ret_of_awp tab Try.func72 rfl rfl (Nat.le_of_ble_eq_true rfl) (fun w0 F0 => ?_)
  repeat' (first | refine wG ?_ | refine wR ?_ | refine wS ?_ ?_ <;> intro _ | refine finG ?_)
  all_goals (refine congrArg (D.int .i64) ?_; ((repeat' split) <;> omega))
theorem ref_node (n : Nd) : Ret Try.prog 50 [ndA n] (· = .bool (nodeB n)) := by
  obtain ⟨op, s, k⟩ := n
  have tn := ref08_Name s
  unfold nodeB ndA
  simp only
  generalize isName s = b at *
  refine ret_of_awp tab Try.func50 rfl rfl (Nat.le_of_ble_eq_true rfl) (fun w0 F0 => ?_)
  repeat' (first | refine wG ?_ | refine wC tn ?_ | refine wR ?_ | refine wS ?_ ?_ <;> intro _ | refine finG ?_)
  all_goals (refine congrArg D.bool ?_; simp_all <;> (intros; omega))
theorem formula_Valid (s : List UInt8) (e : List Nd) (hl : e.length ≤ 1000) : Ret Try.prog 24 [.agg [.str s, ndsD e]] (· = .bool (vld s e)) := by
  have tn := table_Name s
  unfold vld
  generalize isName s = b at *
  refine ret_of_awp tab Try.func24 rfl rfl (Nat.le_of_ble_eq_true rfl) (fun w0 F0 => ?_)
  repeat' (first | refine wG ?_ | refine wR ?_ | refine wS ?_ ?_ <;> intro _ | refine finG ?_)
  refine awp_loop2 (fun (i o : Nat) => ([(1, .ptr 1 0), (3, .d (.int .i64 o)), (8, .d (ndsD e)), (9, .d (.int .i64 e.length)), (10, .d (.int .i64 i))], [(1, .box 24 [.d (.str s), .d (ndsD e)])])) (fun i o => i ≤ e.length ∧ o ≤ 10 * i + 1 ∧ cnt (e.drop i) o = cnt e 1) (fun i o => e.length - i) 0 1 ⟨by omega, by omega, by simp⟩ ⟨rfl, rfl, rfl, rfl, rfl, rfl⟩ ⟨rfl, trivial⟩ (fun i o hi => ?_)
  obtain ⟨hi, ho, hc⟩ := hi
  rw [← hc]
  clear hc
  by_cases g : i < e.length
  · have hd : e.drop i = e[i]?.getD nd0 :: e.drop (i + 1) := by
      rw [List.drop_eq_getElem_cons g]; simp [g]
    have c := formula_operands (e[i]?.getD nd0)
    rw [hd]
    simp only [cnt]
    cases hn : opnd (e[i]?.getD nd0) with
    | none =>
      rw [opI_none hn] at c
      repeat' (first | refine wG ?_ | refine wC c ?_ | refine wR ?_ | refine wS ?_ ?_ <;> intro _ | refine finG ?_)
      all_goals simp
    | some a =>
      obtain ⟨h1, ha⟩ := opI_some hn
      rw [h1] at c
      cases o with
      | zero =>
        repeat' (first | refine wG ?_ | refine wC c ?_ | refine wR ?_ | refine wS ?_ ?_ <;> intro _ | refine finG ?_)
        all_goals simp
      | succ o =>
        repeat' (first | refine wG ?_ | refine wC c ?_ | refine wR ?_ | refine wS ?_ ?_ <;> intro _ | refine finG ?_)
        exact ⟨i + 1, o + a, ⟨by omega, by omega, rfl⟩, by omega, ⟨rfl, iv (by omega), rfl, rfl, iv (by omega), rfl⟩, rfl, trivial⟩
  · have hd : e.drop i = [] := List.drop_eq_nil_of_le (by omega)
    rw [hd]
    simp only [cnt]
    repeat' (first | refine wG ?_ | refine wC tn ?_ | refine wR ?_ | refine wS ?_ ?_ <;> intro _ | refine finG ?_)
    all_goals (refine congrArg D.bool ?_; cases o <;> simp_all <;> omega)
theorem ref_End (e : List Nd) (a : Nat) (ha : a ≤ e.length) (hl : e.length ≤ 1000) : Ret Try.prog 49 [ndsD e, .int .i64 a] (· = .int .i64 (endI e a 1)) := by
  refine ret_of_awp tab Try.func49 rfl rfl (Nat.le_of_ble_eq_true rfl) (fun w0 F0 => ?_)
  repeat' (first | refine wG ?_ | refine wR ?_ | refine wS ?_ ?_ <;> intro _ | refine finG ?_)
  refine awp_loop2 (fun (i w : Nat) => ([(0, .d (ndsD e)), (5, .d (.int .i64 w)), (6, .d (.int .i64 i))], [])) (fun i w => i ≤ e.length ∧ 1 ≤ w ∧ w ≤ 10 * i + 1 ∧ endI e i w = endI e a 1) (fun i w => e.length - i) a 1 ⟨by omega, by omega, by omega, rfl⟩ ⟨rfl, rfl, rfl, rfl⟩ trivial (fun i w hi => ?_)
  obtain ⟨hi, hw1, hw, hc⟩ := hi
  rw [← hc]
  clear hc
  by_cases g : i < e.length
  · have hd : e.drop i = e[i]?.getD nd0 :: e.drop (i + 1) := by
      rw [List.drop_eq_getElem_cons g]; simp [g]
    have c := ref_Arity (e[i]?.getD nd0).1
    have hb := arity_le (e[i]?.getD nd0).1
    have e1 := @endI_neg e i w _ hd
    have e2 := @endI_end e i w _ hd
    have e3 := @endI_step e i w _ hd
    generalize arity (e[i]?.getD nd0).1 = k at *
    clear hd
    by_cases k0 : k < 0
    · rw [e1 k0]
      repeat' (first | refine wG ?_ | refine wC c ?_ | refine wR ?_ | refine wS ?_ ?_ <;> intro _ | refine finG ?_)
      rfl
    · obtain ⟨m, rfl⟩ : ∃ m : Nat, k = m := ⟨k.toNat, by omega⟩
      by_cases k1 : w + m - 1 = 0
      · rw [e2 (by omega) k1]
        repeat' (first | refine wG ?_ | refine wC c ?_ | refine wR ?_ | refine wS ?_ ?_ <;> intro _ | refine finG ?_)
        rfl
      · have e3 := e3 (by omega) k1
        rw [Int.toNat_natCast] at e3
        rw [e3]
        repeat' (first | refine wG ?_ | refine wC c ?_ | refine wR ?_ | refine wS ?_ ?_ <;> intro _ | refine finG ?_)
        exact ⟨i + 1, w + m - 1, ⟨by omega, by omega, by omega, rfl⟩, by omega, ⟨rfl, iv (by omega), iv (by omega), rfl⟩, trivial⟩
  · rw [endI_nil (by omega)]
    repeat' (first | refine wG ?_ | refine wR ?_ | refine wS ?_ ?_ <;> intro _ | refine finG ?_)
    rfl
theorem ref_Valid (s : List UInt8) (e : List Nd) (hl : e.length ≤ 1000) : Ret Try.prog 16 [.agg [.str s, ndsD e]] (· = .bool (vld s e)) := by
  have tn := ref08_Name s
  have en := ref_End e 0 (Nat.zero_le _) hl
  have hv : vld s e = (isName s && (decide (endI e 0 1 = e.length) && (e.all nodeB && decide (e.length ≤ 64)))) := by
    unfold vld
    congr 1
    rw [Bool.eq_iff_iff]
    simp only [Bool.and_eq_true, decide_eq_true_eq, cnt_end, endI_iff, List.all_eq_true]
    constructor
    · exact fun h => ⟨h.1.1, h.1.2, h.2⟩
    · exact fun h => ⟨⟨h.1, h.2.1⟩, h.2.2⟩
  have h1 : endI e 0 1 = e.length → 1 ≤ e.length := by
    intro h
    have := endN_le ((endI_iff e).1 h)
    omega
  rw [hv]
  clear hv
  generalize isName s = b at *
  generalize endI e 0 1 = z at *
  by_cases h0 : b = true ∧ z = e.length ∧ e.length ≤ 64
  · obtain ⟨rfl, rfl, h64⟩ := h0
    have h1 := h1 rfl
    have hv : (true && (decide ((e.length : Int) = e.length) && (e.all nodeB && decide (e.length ≤ 64)))) = e.all nodeB := by simp [h64]
    rw [hv]
    refine ret_of_awp tab Try.func16 rfl rfl (Nat.le_of_ble_eq_true rfl) (fun w0 F0 => ?_)
    repeat' (first | refine wG ?_ | refine wC tn ?_ | refine wC en ?_ | refine rg 1 23 ?_ | refine wR ?_ | refine wS ?_ ?_ <;> intro _ | refine finG ?_)
    refine awp_loop1 (fun (i : Nat) => ([(1, .ptr 1 0), (3, .d (.int .i64 i))], [(1, .box 24 [.d (.str s), .d (ndsD e)])])) (fun i => i ≤ e.length ∧ (e.drop i).all nodeB = e.all nodeB) (fun i => e.length - i) 0 ⟨by omega, rfl⟩ ⟨rfl, rfl, rfl⟩ ⟨rfl, trivial⟩ (fun i hi => ?_)
    obtain ⟨hi, hc⟩ := hi
    rw [← hc]
    clear hc
    by_cases g : i < e.length
    · have hd : e.drop i = e[i]?.getD nd0 :: e.drop (i + 1) := by
        rw [List.drop_eq_getElem_cons g]; simp [g]
      have c := ref_node (e[i]?.getD nd0)
      rw [hd, List.all_cons]
      cases hb : nodeB (e[i]?.getD nd0) with
      | false =>
        rw [hb] at c
        repeat' (first | refine wG ?_ | refine wC c ?_ | refine rg 1 23 ?_ | refine wR ?_ | refine wS ?_ ?_ <;> intro _ | refine finG ?_)
        all_goals simp
      | true =>
        rw [hb] at c
        rw [Bool.true_and]
        repeat' (first | refine wG ?_ | refine wC c ?_ | refine rg 1 23 ?_ | refine wR ?_ | refine wS ?_ ?_ <;> intro _ | refine finG ?_)
        exact ⟨i + 1, ⟨by omega, rfl⟩, by omega, ⟨rfl, iv (by omega), rfl⟩, rfl, trivial⟩
    · rw [List.drop_eq_nil_of_le (by omega)]
      repeat' (first | refine wG ?_ | refine rg 1 23 ?_ | refine wR ?_ | refine wS ?_ ?_ <;> intro _ | refine finG ?_)
      all_goals simp
  · have hv : (b && (decide (z = e.length) && (e.all nodeB && decide (e.length ≤ 64)))) = false := by
      cases b <;> simp_all
    rw [hv]
    clear hv
    cases b with
    | false =>
      refine ret_of_awp tab Try.func16 rfl rfl (Nat.le_of_ble_eq_true rfl) (fun w0 F0 => ?_)
      repeat' (first | refine wG ?_ | refine wC tn ?_ | refine rg 1 23 ?_ | refine wR ?_ | refine wS ?_ ?_ <;> intro _ | refine finG ?_)
      rfl
    | true =>
      by_cases g1 : e.length < 1
      · refine ret_of_awp tab Try.func16 rfl rfl (Nat.le_of_ble_eq_true rfl) (fun w0 F0 => ?_)
        repeat' (first | refine wG ?_ | refine wC tn ?_ | refine rg 1 23 ?_ | refine wR ?_ | refine wS ?_ ?_ <;> intro _ | refine finG ?_)
        rfl
      · by_cases g2 : 64 < e.length
        · refine ret_of_awp tab Try.func16 rfl rfl (Nat.le_of_ble_eq_true rfl) (fun w0 F0 => ?_)
          repeat' (first | refine wG ?_ | refine wC tn ?_ | refine rg 1 23 ?_ | refine wR ?_ | refine wS ?_ ?_ <;> intro _ | refine finG ?_)
          rfl
        · have g3 : z ≠ e.length := fun q => h0 ⟨rfl, q, by omega⟩
          refine ret_of_awp tab Try.func16 rfl rfl (Nat.le_of_ble_eq_true rfl) (fun w0 F0 => ?_)
          repeat' (first | refine wG ?_ | refine wC tn ?_ | refine wC en ?_ | refine rg 1 23 ?_ | refine wR ?_ | refine wS ?_ ?_ <;> intro _ | refine finG ?_)
          rfl
end Go.Proofs.Ytjooknpgcjicbaa

/-
  The program's reader of right sides: expressions. Conditions: as each says.
-/
set_option maxHeartbeats 8000000
namespace Go.Proofs.Ytjooknpgcjicbaa
open Go.Vw
attribute [local irreducible] awp awpL awpR

def exO (e : List Nd) (fs : List Fc) (rest : List Nd) : Option (List Nat) → Out
  | some l => .ret (.tup [.d (tsD l), .d (ndsD rest)]) (xB e fs)
  | none => .pan limV
theorem exO_cov (e : List Nd) (fs fs' : List Fc) (rest : List Nd) (o : Option (List Nat)) : coverM ((xB e fs).map (·.1)) (exO e fs' rest o) = true := by cases o <;> rfl
theorem exO_ln (e : List Nd) (fs fs' : List Fc) (rest : List Nd) (o : Option (List Nat)) : LnM [601] (xB e fs) (exO e fs' rest o) := by
  cases o with
  | some l => exact ⟨.inr (Nat.le_refl _), .inl rfl, trivial⟩
  | none => trivial
abbrev ExC (e : List Nd) (al fs : List Fc) (T : Ft) (rest : List Nd) : Prop := OutM Try.prog 59 [601] [.ptr 17 0, .d (ndsD (T.flat ++ rest))] (xB e fs) (exO e (addT fs T) rest (exM al T))
theorem ex_leaf (e : List Nd) (al fs : List Fc) (n : Nd) (rest : List Nd) (hr : rest.length ≤ 1000) (hok : leafOk n) (hal : al.length ≤ 64) (hp : addT fs (.leaf n) <+: al) : ExC e al fs (.leaf n) rest := by
  obtain ⟨op, s, k⟩ := n
  have hle := hp.length_le
  show OutM _ _ _ [.ptr 17 0, .d (ndsD ((op, s, k) :: rest))] _ (exO e (addT fs (.leaf (op, s, k))) rest (some (vN al (op, s, k))))
  have hl : ((op, s, k) :: rest).length = rest.length + 1 := rfl
  unfold addT at hp hle ⊢
  unfold vN
  rcases hok with ⟨h, _⟩ | ⟨h, _⟩ | ⟨h | h, _⟩
  · have h : op = 1 := h
    subst h
    rw [if_pos (.inl rfl)] at hp hle ⊢
    have ei := idx_pre hp (mem_addF.2 (.inr rfl))
    rw [show facN (1, s, k) = (s, 1) from rfl] at *
    rw [if_neg (by show ¬ (1 : Int) = 3; decide), if_neg (by show ¬ (1 : Int) = 4; decide), ei]
    have c := terms_factorM e fs (s, 1) (by omega)
    generalize 2 ^ ((addF fs (s, 1)).idxOf (s, 1)) = x at *
    generalize addF fs (s, 1) = fs' at *
    clear hp ei
    refine outM_of_awp tab [17] [601] Try.func59 rfl rfl rfl (Nat.le_of_ble_eq_true rfl) (exO_cov e fs fs' rest _) (exO_ln e fs fs' rest _) (fun w0 F0 A io0 => ?_)
    repeat' (first | refine wX ?_ | refine wE ?_ | refine wG ?_ | refine wM [601] c ?_ | refine rgK 1 7 [6] ?_ | refine wR ?_ | refine wS ?_ ?_ <;> intro _ | exact wQ rfl | (refine wO ?_; refine wB ?_ ?_) | (refine wO ?_; refine wF ?_))
    all_goals first | exact leVT | exact ⟨rfl, rfl, trivial⟩
  · have h : op = 2 := h
    subst h
    rw [if_pos (.inr rfl)] at hp hle ⊢
    have ei := idx_pre hp (mem_addF.2 (.inr rfl))
    rw [show facN (2, s, k) = (s, k) from rfl] at *
    rw [if_neg (by show ¬ (2 : Int) = 3; decide), if_neg (by show ¬ (2 : Int) = 4; decide), ei]
    have c := terms_factorM e fs (s, k) (by omega)
    generalize 2 ^ ((addF fs (s, k)).idxOf (s, k)) = x at *
    generalize addF fs (s, k) = fs' at *
    clear hp ei
    refine outM_of_awp tab [17] [601] Try.func59 rfl rfl rfl (Nat.le_of_ble_eq_true rfl) (exO_cov e fs fs' rest _) (exO_ln e fs fs' rest _) (fun w0 F0 A io0 => ?_)
    repeat' (first | refine wX ?_ | refine wE ?_ | refine wG ?_ | refine wM [601] c ?_ | refine rgK 1 7 [6] ?_ | refine wR ?_ | refine wS ?_ ?_ <;> intro _ | exact wQ rfl | (refine wO ?_; refine wB ?_ ?_) | (refine wO ?_; refine wF ?_))
    all_goals first | exact leVT | exact ⟨rfl, rfl, trivial⟩
  · have h : op = 3 := h
    subst h
    rw [if_neg (by show ¬ ((3 : Int) = 1 ∨ (3 : Int) = 2); decide)] at hp hle ⊢
    rw [if_pos rfl]
    clear hp
    refine outM_of_awp tab [17] [601] Try.func59 rfl rfl rfl (Nat.le_of_ble_eq_true rfl) (exO_cov e fs fs rest _) (exO_ln e fs fs rest _) (fun w0 F0 A io0 => ?_)
    repeat' (first | refine wX ?_ | refine wE ?_ | refine wG ?_ | refine rgK 1 7 [6] ?_ | refine wR ?_ | refine wS ?_ ?_ <;> intro _ | exact wQ rfl | (refine wO ?_; refine wB ?_ ?_) | (refine wO ?_; refine wF ?_))
    all_goals first | exact leVT | exact ⟨rfl, rfl, trivial⟩
  · have h : op = 4 := h
    subst h
    rw [if_neg (by show ¬ ((4 : Int) = 1 ∨ (4 : Int) = 2); decide)] at hp hle ⊢
    rw [if_neg (by show ¬ (4 : Int) = 3; decide), if_pos rfl]
    clear hp
    refine outM_of_awp tab [17] [601] Try.func59 rfl rfl rfl (Nat.le_of_ble_eq_true rfl) (exO_cov e fs fs rest _) (exO_ln e fs fs rest _) (fun w0 F0 A io0 => ?_)
    repeat' (first | refine wX ?_ | refine wE ?_ | refine wG ?_ | refine rgK 1 7 [6] ?_ | refine wR ?_ | refine wS ?_ ?_ <;> intro _ | exact wQ rfl | (refine wO ?_; refine wB ?_ ?_) | (refine wO ?_; refine wF ?_))
    all_goals first | exact leVT | exact ⟨rfl, rfl, trivial⟩
theorem ex_un (e : List Nd) (al fs : List Fc) (k : Int) (a : Ft) (rest : List Nd) (hr : rest.length + a.flat.length ≤ 1000) (hk : 1 ≤ k ∧ k ≤ 6) (ha : ExC e al fs a rest) (hok : ∀ l, exM al a = some l → TmOk al.length l) (hal : al.length ≤ 64) : ExC e al fs (.un k a) rest := by
  obtain ⟨k1, k2⟩ := hk
  obtain ⟨j, rfl⟩ : ∃ j : Nat, k = (j : Int) + 1 := ⟨k.toNat - 1, by omega⟩
  have hl : (((10 : Int), ([] : List UInt8), (j : Int) + 1) :: (a.flat ++ rest)).length = a.flat.length + rest.length + 1 := by simp
  show OutM _ _ _ [.ptr 17 0, .d (ndsD ((10, [], (j : Int) + 1) :: (a.flat ++ rest)))] _ (exO e (addT fs a) rest (exM al (.un ((j : Int) + 1) a)))
  unfold exM
  have hal2 : (a.flat ++ rest).length = a.flat.length + rest.length := List.length_append
  cases hx : exM al a with
  | none =>
    unfold ExC at ha
    rw [hx] at ha
    have ha : PanB Try.prog 59 [.ptr 17 0, .d (ndsD (a.flat ++ rest))] (lookB (xB e fs)) limV := ha
    generalize a.flat ++ rest = r1 at *
    simp only
    clear hx hok
    refine outM_of_awp tab [17] [601] Try.func59 rfl rfl rfl (Nat.le_of_ble_eq_true rfl) (exO_cov e fs _ rest _) (exO_ln e fs _ rest _) (fun w0 F0 A io0 => ?_)
    repeat' (first | refine wX ?_ | refine wE ?_ | refine wG ?_ | refine wP ha ?_ | refine rgK 1 7 [6] ?_ | refine wR ?_ | refine wS ?_ ?_ <;> intro _ | exact wQ rfl | (refine wO ?_; refine wB ?_ ?_) | (refine wO ?_; refine wF ?_))
  | some l =>
    unfold ExC at ha
    rw [hx] at ha
    have ha : RetM Try.prog 59 [601] [.ptr 17 0, .d (ndsD (a.flat ++ rest))] (lookB (xB e fs)) (.tup [.d (tsD l), .d (ndsD rest)]) (lookB (xB e (addT fs a))) := ha
    have o := hok l hx
    have ra := terms_raisedO l j (by omega) (o.bd.mono hal) o.nd o.fit
    rw [show ((j : Int) + 1).toNat - 1 = j by omega]
    generalize a.flat ++ rest = r1 at *
    generalize addT fs a = fs' at *
    simp only
    unfold rsO at ra
    unfold fitO
    clear hx hok o
    by_cases hf : fitsM (powM l j) = true
    · rw [if_pos hf] at ra ⊢
      have ra := RetB.toRet (ds := [tsD l, .int .i64 ((j : Int) + 1)]) (y := .d (tsD (powM l j))) ra true rfl trivial
      generalize powM l j = q at *
      clear hf
      refine outM_of_awp tab [17] [601] Try.func59 rfl rfl rfl (Nat.le_of_ble_eq_true rfl) (exO_cov e fs fs' rest _) (exO_ln e fs fs' rest _) (fun w0 F0 A io0 => ?_)
      repeat' (first | refine wX ?_ | refine wE ?_ | refine wG ?_ | refine wM [601] ha ?_ | refine wC ra ?_ | refine rgK 1 7 [6] ?_ | refine wR ?_ | refine wS ?_ ?_ <;> intro _ | exact wQ rfl | (refine wO ?_; refine wB ?_ ?_) | (refine wO ?_; refine wF ?_))
      all_goals first | exact leVT | exact ⟨rfl, rfl, trivial⟩
    · rw [if_neg hf] at ra ⊢
      have ra : PanB Try.prog 90 [.d (tsD l), .d (.int .i64 ((j : Int) + 1))] (lookB []) limV := ra
      clear hf
      refine outM_of_awp tab [17] [601] Try.func59 rfl rfl rfl (Nat.le_of_ble_eq_true rfl) (exO_cov e fs fs' rest _) (exO_ln e fs fs' rest _) (fun w0 F0 A io0 => ?_)
      repeat' (first | refine wX ?_ | refine wE ?_ | refine wG ?_ | refine wP ra ?_ | refine wM [601] ha ?_ | refine rgK 1 7 [6] ?_ | refine wR ?_ | refine wS ?_ ?_ <;> intro _ | exact wQ rfl | (refine wO ?_; refine wB ?_ ?_) | (refine wO ?_; refine wF ?_))
theorem ex_two (e : List Nd) (fs0 fs1 fs2 : List Fc) (op : Int) (af bf rest : List Nd) (hr : rest.length + af.length + bf.length ≤ 1000) (hop : 5 ≤ op ∧ op ≤ 9) (l m : List Nat) (ol : TmOk 64 l) (om : TmOk 64 m) (ha : RetM Try.prog 59 [601] [.ptr 17 0, .d (ndsD (af ++ (bf ++ rest)))] (lookB (xB e fs0)) (.tup [.d (tsD l), .d (ndsD (bf ++ rest))]) (lookB (xB e fs1))) (hb : RetM Try.prog 59 [601] [.ptr 17 0, .d (ndsD (bf ++ rest))] (lookB (xB e fs1)) (.tup [.d (tsD m), .d (ndsD rest)]) (lookB (xB e fs2))) : OutM Try.prog 59 [601] [.ptr 17 0, .d (ndsD ((op, [], 0) :: (af ++ (bf ++ rest))))] (xB e fs0) (exO e fs2 rest (fitO (opM op l m))) := by
  have hl : ((op, ([] : List UInt8), (0 : Int)) :: (af ++ (bf ++ rest))).length = af.length + (bf.length + rest.length) + 1 := by simp
  have hl1 : (af ++ (bf ++ rest)).length = af.length + (bf.length + rest.length) := by simp
  have hl2 : (bf ++ rest).length = bf.length + rest.length := by simp
  have ll := fitsM_len ol.fit
  have lm := fitsM_len om.fit
  have bl := ol.bd
  have bm := om.bd
  have bo := bl.op bm (op := op)
  have lo : (opM op l m).length ≤ 1200 := by
    have h1 := (plusM_le l m).2
    have h2 := crossM_le l m
    have h3 := starM_le (a := l) (b := m) (by omega) (by omega)
    have h4 := minusM_le l m
    have h5 := crossM_le [orM l] m
    have h6 := (plusM_le l (crossM [orM l] m)).2
    have := Nat.mul_le_mul ll lm
    rw [List.length_singleton] at h5
    unfold opM
    repeat' split
    · omega
    · omega
    · omega
    · exact h3
    · show (plusM l (crossM [orM l] m)).length ≤ 1200
      omega
  have ck := fun hf => terms_checked (opM op l m) (by omega) bo hf
  have cp := fun hf => terms_checkedP (opM op l m) (by omega) bo hf
  unfold fitO
  generalize hA : af ++ (bf ++ rest) = r1 at *
  generalize hB : bf ++ rest = r2 at *
  rcases (show op = 5 ∨ op = 6 ∨ op = 7 ∨ op = 8 ∨ op = 9 by omega) with rfl | rfl | rfl | rfl | rfl
  · rw [show opM 5 l m = plusM l m from rfl] at *
    by_cases hf : fitsM (plusM l m) = true
    · rw [if_pos hf]
      have ck := ck hf
      have w := terms_with l m (by omega) (by omega)
      clear cp bo bl bm ol om
      generalize plusM l m = q at *
      refine outM_of_awp tab [17] [601] Try.func59 rfl rfl rfl (Nat.le_of_ble_eq_true rfl) (exO_cov e fs0 fs2 rest _) (exO_ln e fs0 fs2 rest _) (fun w0 F0 A io0 => ?_)
      repeat' (first | refine wX ?_ | refine wE ?_ | refine wG ?_ | refine wM [601] ha ?_ | refine wM [601] hb ?_ | refine wC w ?_ | refine wC ck ?_ | refine rgK 1 7 [6] ?_ | refine wR ?_ | refine wS ?_ ?_ <;> intro _ | exact wQ rfl | (refine wO ?_; refine wB ?_ ?_) | (refine wO ?_; refine wF ?_))
      all_goals first | exact leVT | exact ⟨rfl, rfl, trivial⟩
    · rw [if_neg hf]
      have cp := cp (by simpa using hf)
      have w := terms_with l m (by omega) (by omega)
      clear ck bo bl bm ol om hf
      generalize plusM l m = q at *
      refine outM_of_awp tab [17] [601] Try.func59 rfl rfl rfl (Nat.le_of_ble_eq_true rfl) (exO_cov e fs0 fs2 rest _) (exO_ln e fs0 fs2 rest _) (fun w0 F0 A io0 => ?_)
      repeat' (first | refine wX ?_ | refine wE ?_ | refine wG ?_ | refine wP cp ?_ | refine wM [601] ha ?_ | refine wM [601] hb ?_ | refine wC w ?_ | refine rgK 1 7 [6] ?_ | refine wR ?_ | refine wS ?_ ?_ <;> intro _ | exact wQ rfl | (refine wO ?_; refine wB ?_ ?_) | (refine wO ?_; refine wF ?_))
  · rw [show opM 6 l m = minusM l m from rfl] at *
    by_cases hf : fitsM (minusM l m) = true
    · rw [if_pos hf]
      have ck := ck hf
      have w := terms_without l m (by omega) (by omega)
      clear cp bo bl bm ol om
      generalize minusM l m = q at *
      refine outM_of_awp tab [17] [601] Try.func59 rfl rfl rfl (Nat.le_of_ble_eq_true rfl) (exO_cov e fs0 fs2 rest _) (exO_ln e fs0 fs2 rest _) (fun w0 F0 A io0 => ?_)
      repeat' (first | refine wX ?_ | refine wE ?_ | refine wG ?_ | refine wM [601] ha ?_ | refine wM [601] hb ?_ | refine wC w ?_ | refine wC ck ?_ | refine rgK 1 7 [6] ?_ | refine wR ?_ | refine wS ?_ ?_ <;> intro _ | exact wQ rfl | (refine wO ?_; refine wB ?_ ?_) | (refine wO ?_; refine wF ?_))
      all_goals first | exact leVT | exact ⟨rfl, rfl, trivial⟩
    · rw [if_neg hf]
      have cp := cp (by simpa using hf)
      have w := terms_without l m (by omega) (by omega)
      clear ck bo bl bm ol om hf
      generalize minusM l m = q at *
      refine outM_of_awp tab [17] [601] Try.func59 rfl rfl rfl (Nat.le_of_ble_eq_true rfl) (exO_cov e fs0 fs2 rest _) (exO_ln e fs0 fs2 rest _) (fun w0 F0 A io0 => ?_)
      repeat' (first | refine wX ?_ | refine wE ?_ | refine wG ?_ | refine wP cp ?_ | refine wM [601] ha ?_ | refine wM [601] hb ?_ | refine wC w ?_ | refine rgK 1 7 [6] ?_ | refine wR ?_ | refine wS ?_ ?_ <;> intro _ | exact wQ rfl | (refine wO ?_; refine wB ?_ ?_) | (refine wO ?_; refine wF ?_))
  · rw [show opM 7 l m = crossM l m from rfl] at *
    by_cases hf : fitsM (crossM l m) = true
    · rw [if_pos hf]
      have ck := ck hf
      have w := terms_unions l m (by omega) (by omega) bl bm hf
      clear cp bo bl bm ol om
      generalize crossM l m = q at *
      refine outM_of_awp tab [17] [601] Try.func59 rfl rfl rfl (Nat.le_of_ble_eq_true rfl) (exO_cov e fs0 fs2 rest _) (exO_ln e fs0 fs2 rest _) (fun w0 F0 A io0 => ?_)
      repeat' (first | refine wX ?_ | refine wE ?_ | refine wG ?_ | refine wM [601] ha ?_ | refine wM [601] hb ?_ | refine wC w ?_ | refine wC ck ?_ | refine rgK 1 7 [6] ?_ | refine wR ?_ | refine wS ?_ ?_ <;> intro _ | exact wQ rfl | (refine wO ?_; refine wB ?_ ?_) | (refine wO ?_; refine wF ?_))
      all_goals first | exact leVT | exact ⟨rfl, rfl, trivial⟩
    · rw [if_neg hf]
      have w := terms_unionsP l m (by omega) (by omega) bl bm hf
      clear ck cp bo bl bm ol om
      refine outM_of_awp tab [17] [601] Try.func59 rfl rfl rfl (Nat.le_of_ble_eq_true rfl) (exO_cov e fs0 fs2 rest _) (exO_ln e fs0 fs2 rest _) (fun w0 F0 A io0 => ?_)
      repeat' (first | refine wX ?_ | refine wE ?_ | refine wG ?_ | refine wP w ?_ | refine wM [601] ha ?_ | refine wM [601] hb ?_ | refine rgK 1 7 [6] ?_ | refine wR ?_ | refine wS ?_ ?_ <;> intro _ | exact wQ rfl | (refine wO ?_; refine wB ?_ ?_) | (refine wO ?_; refine wF ?_))
  · rw [show opM 8 l m = starM l m from rfl] at *
    by_cases hf : fitsM (starM l m) = true
    · rw [if_pos hf]
      have ck := ck hf
      have w := terms_crossed l m (by omega) (by omega) bl bm hf
      clear cp bo bl bm ol om
      generalize starM l m = q at *
      refine outM_of_awp tab [17] [601] Try.func59 rfl rfl rfl (Nat.le_of_ble_eq_true rfl) (exO_cov e fs0 fs2 rest _) (exO_ln e fs0 fs2 rest _) (fun w0 F0 A io0 => ?_)
      repeat' (first | refine wX ?_ | refine wE ?_ | refine wG ?_ | refine wM [601] ha ?_ | refine wM [601] hb ?_ | refine wC w ?_ | refine wC ck ?_ | refine rgK 1 7 [6] ?_ | refine wR ?_ | refine wS ?_ ?_ <;> intro _ | exact wQ rfl | (refine wO ?_; refine wB ?_ ?_) | (refine wO ?_; refine wF ?_))
      all_goals first | exact leVT | exact ⟨rfl, rfl, trivial⟩
    · rw [if_neg hf]
      have w := terms_crossedP l m (by omega) (by omega) bl bm hf
      clear ck cp bo bl bm ol om
      refine outM_of_awp tab [17] [601] Try.func59 rfl rfl rfl (Nat.le_of_ble_eq_true rfl) (exO_cov e fs0 fs2 rest _) (exO_ln e fs0 fs2 rest _) (fun w0 F0 A io0 => ?_)
      repeat' (first | refine wX ?_ | refine wE ?_ | refine wG ?_ | refine wP w ?_ | refine wM [601] ha ?_ | refine wM [601] hb ?_ | refine rgK 1 7 [6] ?_ | refine wR ?_ | refine wS ?_ ?_ <;> intro _ | exact wQ rfl | (refine wO ?_; refine wB ?_ ?_) | (refine wO ?_; refine wF ?_))
  · rw [show opM 9 l m = nestM l m from rfl] at *
    by_cases hf : fitsM (nestM l m) = true
    · rw [if_pos hf]
      have ck := ck hf
      have w := terms_nested l m (by omega) (by omega) bl bm hf
      clear cp bo bl bm ol om
      generalize nestM l m = q at *
      refine outM_of_awp tab [17] [601] Try.func59 rfl rfl rfl (Nat.le_of_ble_eq_true rfl) (exO_cov e fs0 fs2 rest _) (exO_ln e fs0 fs2 rest _) (fun w0 F0 A io0 => ?_)
      repeat' (first | refine wX ?_ | refine wE ?_ | refine wG ?_ | refine wM [601] ha ?_ | refine wM [601] hb ?_ | refine wC w ?_ | refine wC ck ?_ | refine rgK 1 7 [6] ?_ | refine wR ?_ | refine wS ?_ ?_ <;> intro _ | exact wQ rfl | (refine wO ?_; refine wB ?_ ?_) | (refine wO ?_; refine wF ?_))
      all_goals first | exact leVT | exact ⟨rfl, rfl, trivial⟩
    · rw [if_neg hf]
      have ne := terms_nestedO l m (by omega) (by omega) bl bm
      unfold neO at ne
      by_cases hg : fitsM (crossM [orM l] m) = true
      · rw [if_pos hg] at ne
        have w := RetB.toRet (ds := [tsD l, tsD m]) (y := .d (tsD (nestM l m))) ne true rfl trivial
        have cp := cp (by simpa using hf)
        clear ck bo bl bm ol om hf hg ne
        generalize nestM l m = q at *
        refine outM_of_awp tab [17] [601] Try.func59 rfl rfl rfl (Nat.le_of_ble_eq_true rfl) (exO_cov e fs0 fs2 rest _) (exO_ln e fs0 fs2 rest _) (fun w0 F0 A io0 => ?_)
        repeat' (first | refine wX ?_ | refine wE ?_ | refine wG ?_ | refine wP cp ?_ | refine wM [601] ha ?_ | refine wM [601] hb ?_ | refine wC w ?_ | refine rgK 1 7 [6] ?_ | refine wR ?_ | refine wS ?_ ?_ <;> intro _ | exact wQ rfl | (refine wO ?_; refine wB ?_ ?_) | (refine wO ?_; refine wF ?_))
      · rw [if_neg hg] at ne
        have w : PanB Try.prog 94 [.d (tsD l), .d (tsD m)] (lookB []) limV := ne
        clear ck cp bo bl bm ol om hf hg ne
        refine outM_of_awp tab [17] [601] Try.func59 rfl rfl rfl (Nat.le_of_ble_eq_true rfl) (exO_cov e fs0 fs2 rest _) (exO_ln e fs0 fs2 rest _) (fun w0 F0 A io0 => ?_)
        repeat' (first | refine wX ?_ | refine wE ?_ | refine wG ?_ | refine wP w ?_ | refine wM [601] ha ?_ | refine wM [601] hb ?_ | refine rgK 1 7 [6] ?_ | refine wR ?_ | refine wS ?_ ?_ <;> intro _ | exact wQ rfl | (refine wO ?_; refine wB ?_ ?_) | (refine wO ?_; refine wF ?_))
theorem ex_bi (e : List Nd) (al fs : List Fc) (op : Int) (a b : Ft) (rest : List Nd) (hr : rest.length + (Ft.bi op a b).flat.length ≤ 1000) (hop : 5 ≤ op ∧ op ≤ 9) (ha : ∀ rest, rest.length + a.flat.length ≤ 1000 → ExC e al fs a rest) (hb : ∀ rest, rest.length + b.flat.length ≤ 1000 → ExC e al (addT fs a) b rest) (hoka : ∀ l, exM al a = some l → TmOk al.length l) (hokb : ∀ l, exM al b = some l → TmOk al.length l) (hal : al.length ≤ 64) : ExC e al fs (.bi op a b) rest := by
  have hfl : (Ft.bi op a b).flat.length = a.flat.length + b.flat.length + 1 := by simp [Ft.flat]
  have ha := ha (b.flat ++ rest) (by simp; omega)
  have hb := hb rest (by omega)
  have hl : ((op, ([] : List UInt8), (0 : Int)) :: (a.flat ++ (b.flat ++ rest))).length = a.flat.length + (b.flat.length + rest.length) + 1 := by simp
  have hl1 : (a.flat ++ (b.flat ++ rest)).length = a.flat.length + (b.flat.length + rest.length) := by simp
  have hl2 : (b.flat ++ rest).length = b.flat.length + rest.length := by simp
  unfold ExC
  rw [show (Ft.bi op a b).flat ++ rest = (op, [], 0) :: (a.flat ++ (b.flat ++ rest)) by simp [Ft.flat]]
  unfold ExC at ha hb
  rw [show addT fs (.bi op a b) = addT (addT fs a) b from rfl]
  cases hx : exM al a with
  | none =>
    rw [hx] at ha
    have ha : PanB Try.prog 59 [.ptr 17 0, .d (ndsD (a.flat ++ (b.flat ++ rest)))] (lookB (xB e fs)) limV := ha
    rw [show exM al (.bi op a b) = none by unfold exM; rw [hx]]
    generalize a.flat ++ (b.flat ++ rest) = r1 at *
    clear hx hoka hokb hb
    rcases (show op = 5 ∨ op = 6 ∨ op = 7 ∨ op = 8 ∨ op = 9 by omega) with rfl | rfl | rfl | rfl | rfl
    all_goals
      refine outM_of_awp tab [17] [601] Try.func59 rfl rfl rfl (Nat.le_of_ble_eq_true rfl) (exO_cov e fs _ rest _) (exO_ln e fs _ rest _) (fun w0 F0 A io0 => ?_)
      repeat' (first | refine wX ?_ | refine wE ?_ | refine wG ?_ | refine wP ha ?_ | refine rgK 1 7 [6] ?_ | refine wR ?_ | refine wS ?_ ?_ <;> intro _ | exact wQ rfl | (refine wO ?_; refine wB ?_ ?_) | (refine wO ?_; refine wF ?_))
  | some l =>
    rw [hx] at ha
    have ha : RetM Try.prog 59 [601] [.ptr 17 0, .d (ndsD (a.flat ++ (b.flat ++ rest)))] (lookB (xB e fs)) (.tup [.d (tsD l), .d (ndsD (b.flat ++ rest))]) (lookB (xB e (addT fs a))) := ha
    cases hy : exM al b with
    | none =>
      rw [hy] at hb
      have hb : PanB Try.prog 59 [.ptr 17 0, .d (ndsD (b.flat ++ rest))] (lookB (xB e (addT fs a))) limV := hb
      rw [show exM al (.bi op a b) = none by unfold exM; rw [hx, hy]]
      generalize a.flat ++ (b.flat ++ rest) = r1 at *
      generalize b.flat ++ rest = r2 at *
      generalize addT fs a = fs1 at *
      clear hx hy hoka hokb
      rcases (show op = 5 ∨ op = 6 ∨ op = 7 ∨ op = 8 ∨ op = 9 by omega) with rfl | rfl | rfl | rfl | rfl
      all_goals
        refine outM_of_awp tab [17] [601] Try.func59 rfl rfl rfl (Nat.le_of_ble_eq_true rfl) (exO_cov e fs _ rest _) (exO_ln e fs _ rest _) (fun w0 F0 A io0 => ?_)
        repeat' (first | refine wX ?_ | refine wE ?_ | refine wG ?_ | refine wP hb ?_ | refine wM [601] ha ?_ | refine rgK 1 7 [6] ?_ | refine wR ?_ | refine wS ?_ ?_ <;> intro _ | exact wQ rfl | (refine wO ?_; refine wB ?_ ?_) | (refine wO ?_; refine wF ?_))
    | some m =>
      rw [hy] at hb
      have hb : RetM Try.prog 59 [601] [.ptr 17 0, .d (ndsD (b.flat ++ rest))] (lookB (xB e (addT fs a))) (.tup [.d (tsD m), .d (ndsD rest)]) (lookB (xB e (addT (addT fs a) b))) := hb
      rw [show exM al (.bi op a b) = fitO (opM op l m) by conv => lhs; unfold exM; rw [hx, hy]]
      have o1 := hoka l hx
      have o2 := hokb m hy
      exact ex_two e fs (addT fs a) _ op a.flat b.flat rest (by omega) hop l m ⟨o1.fit, o1.nd, o1.bd.mono hal⟩ ⟨o2.fit, o2.nd, o2.bd.mono hal⟩ ha hb
theorem terms_expression (e : List Nd) (al : List Fc) (hal : al.length ≤ 64) : ∀ (T : Ft), T.ok → ∀ (fs : List Fc) (rest : List Nd), rest.length + T.flat.length ≤ 1000 → addT fs T <+: al → ExC e al fs T rest
  | .leaf n, hok, fs, rest, hr, hp => ex_leaf e al fs n rest (by omega) hok hal hp
  | .un k a, hok, fs, rest, hr, hp => by
    have hfl : (Ft.un k a).flat.length = a.flat.length + 1 := rfl
    exact ex_un e al fs k a rest (by omega) ⟨hok.1, hok.2.1⟩ (terms_expression e al hal a hok.2.2 fs rest (by omega) hp) (fun l h => exM_ok hal a hok.2.2 (facsIn_mono (fun f hf => hp.subset hf) a (facsIn_addT a fs)) l h) hal
  | .bi op a b, hok, fs, rest, hr, hp => by
    have pa : addT fs a <+: al := (addT_pre b _).trans hp
    exact ex_bi e al fs op a b rest hr ⟨hok.1, hok.2.1⟩ (fun rest h => terms_expression e al hal a hok.2.2.1 fs rest h pa) (fun rest h => terms_expression e al hal b hok.2.2.2 _ rest h hp) (fun l h => exM_ok hal a hok.2.2.1 (facsIn_mono (fun f hf => pa.subset hf) a (facsIn_addT a fs)) l h) (fun l h => exM_ok hal b hok.2.2.2 (facsIn_mono (fun f hf => hp.subset hf) b (facsIn_addT b _)) l h) hal
end Go.Proofs.Ytjooknpgcjicbaa
