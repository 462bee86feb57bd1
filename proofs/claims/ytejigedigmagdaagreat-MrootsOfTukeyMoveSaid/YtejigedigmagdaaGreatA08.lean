/-
 Contracts of functions of the program, and the layer that they are walked with: W20 PolA PolB PolH PolJ PolC PolK PolG PolL PolM PolN PolS PolT PolU PolV. Conditions: as each says.
-/
import Derived.Test.YtejigedigmagdaaGreatA07
set_option linter.unnecessarySimpa false
set_option linter.unusedVariables false
set_option linter.unusedSimpArgs false
set_option maxHeartbeats 8000000
namespace Go.Proofs.YtejigedigmagdaaGreat
open Go.Vw
attribute [local irreducible] awp awpL awpR
abbrev qB (l : List Rat) : Blk := .data 27 3 qC 0 l
abbrev qO (n : Nat) : V := .own 500 0 n 27 3
theorem ownEq {k o n n' : Nat} {ty : TypeId} {sz : Nat} (h : n = n') : V.own k o n ty sz = V.own k o n' ty sz := by rw [h]
theorem order_SortB (l : List R3) (hn : l.length ≤ 12) (hl : ∀ r ∈ l, RatOk r 1000) : RetB Tryz.prog 132 [.d (rsD l)] (lookB []) (qO l.length) (lookB [(500, qB (srt (l.map rv)))]) := by
 have hq : ∀ q ∈ l.map rv, okQ 1000 q := fun q hq => by
  obtain ⟨r, hr, rfl⟩ := List.mem_map.1 hq
  exact okQ_rv (hl r hr) (by decide)
 have h0 := slices_SortFunc (l.map rv) (by rw [List.length_map]; exact hn) hq
 rw [List.length_map] at h0
 have h : RetB Tryz.prog 172 [.own 500 0 l.length 27 3, .fn 109 []] (lookB [(500, .data 27 3 qC 0 (l.map rv))]) (.tup []) (lookB [(500, .data 27 3 qC 0 (srt (l.map rv)))]) := h0.ren [(1000, 500)]
 have hs : (srt (l.map rv)).length = l.length := by rw [srt_len, List.length_map]
 clear h0 hq
 refine retB_of_awp tab [] Tryz.func132 rfl rfl rfl (lblz rfl) rfl trivial (fun w0 F0 A io0 => ?_)
 repeat' (first | refine wG ?_ | refine wS ?_ ?_ <;> intro _ | refine wB ?_ ?_)
 refine awp_adopt 3 500 27 3 qC 0 rfl ?_
 refine awp_loop1 (fun (i : Nat) => ([(3, .own 500 0 ((l.map rv).take i).length 27 3), (6, .d (rsD l)), (7, .d (.int .i64 l.length)), (8, .d (.int .i64 i))], [(500, .data 27 3 qC 0 ((l.map rv).take i))])) (fun i => i ≤ l.length) (fun i => l.length - i) 0 (by omega) ⟨rfl, rfl, rfl, rfl, rfl⟩ ⟨rfl, trivial⟩ (fun i hi => ?_)
 have hlen : ((l.map rv).take i).length = i := by simp; omega
 by_cases h3 : i < l.length
 ·have g1 : l.getD i r0 ∈ l := by rw [List.getD, List.getElem?_eq_getElem h3]; exact List.getElem_mem h3
  have ha := rational_Add (l.getD i r0) r0 ((hl _ g1).up (by decide)) (ok_r0 (by decide))
  rw [rv_r0, Rat.add_zero] at ha
  have e : (l.map rv).take i ++ [rv (l.getD i r0)] = (l.map rv).take (i + 1) := by
   rw [List.take_add_one]
   simp [h3, List.getD, List.getElem?_eq_getElem h3]
  clear h hs
  repeat' (first | refine wG ?_ | refine wC ha ?_ | refine wS ?_ ?_ <;> intro _ | refine wB ?_ ?_)
  exact ⟨i + 1, by omega, by omega, ⟨by rw [← e]; rfl, rfl, rfl, iv (by omega), rfl⟩, by rw [← e]; rfl, trivial⟩
 ·have e : (l.map rv).take i = l.map rv := List.take_of_length_le (by rw [List.length_map]; omega)
  rw [e] at hlen ⊢
  rw [List.length_map]
  generalize srt (l.map rv) = s at *
  repeat' (first | refine wG ?_ | refine wD [] h ?_ | refine wS ?_ ?_ <;> intro _ | refine wB ?_ ?_)
  all_goals first | exact leVT | exact ⟨rfl, trivial⟩
end Go.Proofs.YtejigedigmagdaaGreat
namespace Go.Vw
def cf (p : List Rat) (i : Nat) : Rat := p.getD i 0
@[simp] theorem cf_nil (i : Nat) : cf [] i = 0 := rfl
@[simp] theorem cf_zero (a : Rat) (p : List Rat) : cf (a :: p) 0 = a := rfl
@[simp] theorem cf_succ (a : Rat) (p : List Rat) (i : Nat) : cf (a :: p) (i + 1) = cf p i := rfl
theorem cf_ge {p : List Rat} {i : Nat} (h : p.length ≤ i) : cf p i = 0 := by simp [cf, List.getD_eq_getElem?_getD, h]
theorem cf_eq {p : List Rat} {i : Nat} (h : i < p.length) : cf p i = p[i] := by simp [cf, List.getD_eq_getElem?_getD, h]
theorem cf_take {p : List Rat} {i n : Nat} : cf (p.take n) i = if i < n then cf p i else 0 := by
 unfold cf
 rw [List.getD_eq_getElem?_getD, List.getD_eq_getElem?_getD, List.getElem?_take]
 split <;> rfl
def Eqv (p q : List Rat) : Prop := ∀ i, cf p i = cf q i
theorem Eqv.refl (p : List Rat) : Eqv p p := fun _ => rfl
theorem Eqv.symm {p q : List Rat} (h : Eqv p q) : Eqv q p := fun i => (h i).symm
theorem Eqv.trans {p q r : List Rat} (h : Eqv p q) (k : Eqv q r) : Eqv p r := fun i => (h i).trans (k i)
def trimP : List Rat → List Rat
 | [] => []
 | a :: p => match trimP p with
  | [] => if a = 0 then [] else [a]
  | b :: q => a :: b :: q
theorem cf_trim : ∀ (p : List Rat) (i : Nat), cf (trimP p) i = cf p i
 | [], i => rfl
 | a :: p, i => by
  have ih := cf_trim p
  unfold trimP
  split
  ·rename_i h
   rw [h] at ih
   split
   ·rename_i ha
    subst ha
    cases i with
    | zero => rfl
    | succ i => rw [cf_succ, ← ih]; rfl
   ·cases i with
    | zero => rfl
    | succ i => rw [cf_succ, cf_succ, ← ih]
  ·rename_i b q h
   rw [h] at ih
   cases i with
   | zero => rfl
   | succ i => rw [cf_succ, cf_succ]; exact ih i
theorem trim_eqv (p : List Rat) : Eqv (trimP p) p := cf_trim p
def Tr (p : List Rat) : Prop := p ≠ [] → cf p (p.length - 1) ≠ 0
theorem Tr.nil : Tr [] := fun h => absurd rfl h
theorem tr_trim : ∀ (p : List Rat), Tr (trimP p)
 | [] => Tr.nil
 | a :: p => by
  have ih := tr_trim p
  unfold trimP
  split
  ·split
   ·exact Tr.nil
   ·rename_i h; exact fun _ => h
  ·rename_i b q h
   rw [h] at ih
   intro _
   have := ih (by simp)
   simpa using this
theorem Tr.cf {p : List Rat} (h : Tr p) (h0 : 0 < p.length) : cf p (p.length - 1) ≠ 0 := h (fun e => by rw [e] at h0; simp at h0)
theorem Tr.len_le {p q : List Rat} (h : Tr p) (k : ∀ i, q.length ≤ i → Vw.cf p i = 0) : p.length ≤ q.length := by
 refine Nat.le_of_not_lt fun hl => ?_
 exact h.cf (by omega) (k _ (by omega))
theorem Tr.len_lt {p : List Rat} {n : Nat} (h : Tr p) (k : ∀ i, n ≤ i → Vw.cf p i = 0) : p.length ≤ n := by
 refine Nat.le_of_not_lt fun hl => ?_
 exact h.cf (by omega) (k _ (by omega))
theorem Tr.ext {p q : List Rat} (hp : Tr p) (hq : Tr q) (h : Eqv p q) : p = q := by
 have e : p.length = q.length := Nat.le_antisymm (hp.len_le fun i hi => by rw [h i]; exact cf_ge hi) (hq.len_le fun i hi => by rw [← h i]; exact cf_ge hi)
 refine List.ext_getElem e fun i h1 h2 => ?_
 have := h i
 rwa [cf_eq h1, cf_eq h2] at this
theorem trim_ext {p q : List Rat} (h : Eqv p q) : trimP p = trimP q := (tr_trim p).ext (tr_trim q) fun i => by rw [cf_trim, cf_trim, h i]
theorem trim_of {p : List Rat} (h : Tr p) : trimP p = p := (tr_trim p).ext h (trim_eqv p)
theorem trim_trim (p : List Rat) : trimP (trimP p) = trimP p := trim_of (tr_trim p)
theorem trim_len (p : List Rat) : (trimP p).length ≤ p.length := (tr_trim p).len_le fun i hi => by rw [cf_trim]; exact cf_ge hi
theorem trim_take {p : List Rat} {n : Nat} (hn : n ≤ p.length) (h1 : ∀ i, n ≤ i → i < p.length → cf p i = 0) (h2 : 0 < n → cf p (n - 1) ≠ 0) : trimP p = p.take n := by
 refine (tr_trim p).ext (fun h => ?_) fun i => ?_
 ·have hl : (p.take n).length = n := by rw [List.length_take]; omega
  have h0 : 0 < n := Nat.pos_of_ne_zero fun e => h (by subst e; simp)
  rw [hl, cf_take, if_pos (by omega)]
  exact h2 h0
 ·rw [cf_trim, cf_take]
  split
  ·rfl
  ·by_cases hi : i < p.length
   ·exact h1 i (by omega) hi
   ·exact cf_ge (by omega)
theorem trim_nil_iff (p : List Rat) : trimP p = [] ↔ ∀ i, cf p i = 0 := ⟨fun h i => by rw [← cf_trim, h]; rfl, fun h => (tr_trim p).ext Tr.nil fun i => by rw [cf_trim, h i]; rfl⟩
theorem trim_mem {p : List Rat} {x : Rat} (h : x ∈ trimP p) : x ∈ p := by
 obtain ⟨i, hi, rfl⟩ := List.mem_iff_getElem.1 h
 have hl := trim_len p
 have := cf_trim p i
 rw [cf_eq hi, cf_eq (by omega)] at this
 rw [this]; exact List.getElem_mem _
def evalP : List Rat → Rat → Rat
 | [], _ => 0
 | a :: p, x => evalP p x * x + a
theorem eval_zero : ∀ {p : List Rat} (x : Rat), (∀ i, cf p i = 0) → evalP p x = 0
 | [], x, _ => rfl
 | a :: p, x, h => by
  have h0 := h 0
  rw [cf_zero] at h0
  rw [evalP, eval_zero x (fun i => by have := h (i + 1); rwa [cf_succ] at this), h0]
  grind
theorem eval_ext : ∀ {p q : List Rat} (x : Rat), Eqv p q → evalP p x = evalP q x
 | [], q, x, h => (eval_zero (p := q) x (fun i => (h i).symm)).symm
 | a :: p, [], x, h => eval_zero (p := a :: p) x (fun i => h i)
 | a :: p, b :: q, x, h => by
  have h0 : a = b := h 0
  have ih := eval_ext (p := p) (q := q) x (fun i => h (i + 1))
  rw [evalP, evalP, ih, h0]
theorem eval_trim (p : List Rat) (x : Rat) : evalP (trimP p) x = evalP p x := eval_ext x (trim_eqv p)
def addC : List Rat → List Rat → List Rat
 | [], q => q
 | p, [] => p
 | a :: p, b :: q => (a + b) :: addC p q
def smul (c : Rat) (p : List Rat) : List Rat := p.map (c * ·)
def shiftP (k : Nat) (p : List Rat) : List Rat := List.replicate k 0 ++ p
def negC (p : List Rat) : List Rat := smul (-1) p
def subC (p q : List Rat) : List Rat := addC p (negC q)
theorem cf_add : ∀ (p q : List Rat) (i : Nat), cf (addC p q) i = cf p i + cf q i
 | [], q, i => by simp only [addC, cf_nil]; grind
 | a :: p, [], i => by simp only [addC, cf_nil]; grind
 | a :: p, b :: q, 0 => by simp [addC]
 | a :: p, b :: q, i + 1 => by simp only [addC, cf_succ]; exact cf_add p q i
theorem cf_smul (c : Rat) : ∀ (p : List Rat) (i : Nat), cf (smul c p) i = c * cf p i
 | [], i => by simp [smul, Rat.mul_zero]
 | a :: p, 0 => by simp [smul]
 | a :: p, i + 1 => by have := cf_smul c p i; simpa [smul] using this
theorem cf_neg (p : List Rat) (i : Nat) : cf (negC p) i = - cf p i := by rw [negC, cf_smul]; grind
theorem cf_sub (p q : List Rat) (i : Nat) : cf (subC p q) i = cf p i - cf q i := by rw [subC, cf_add, cf_neg]; grind
theorem cf_shift (k : Nat) (p : List Rat) (i : Nat) : cf (shiftP k p) i = if i < k then 0 else cf p (i - k) := by
 unfold cf shiftP
 rw [List.getD_eq_getElem?_getD, List.getD_eq_getElem?_getD]
 split
 ·rename_i h
  rw [List.getElem?_append_left (by simpa using h)]
  simp [h]
 ·rename_i h
  rw [List.getElem?_append_right (by simp; omega)]
  simp
theorem eval_add : ∀ (p q : List Rat) (x : Rat), evalP (addC p q) x = evalP p x + evalP q x
 | [], q, x => by simp only [addC, evalP]; grind
 | a :: p, [], x => by simp only [addC, evalP]; grind
 | a :: p, b :: q, x => by simp only [addC, evalP, eval_add p q x]; grind
theorem eval_smul (c : Rat) : ∀ (p : List Rat) (x : Rat), evalP (smul c p) x = c * evalP p x
 | [], x => by simp [smul, evalP, Rat.mul_zero]
 | a :: p, x => by
  have ih := eval_smul c p x
  simp only [smul, List.map_cons, evalP] at ih ⊢
  rw [ih]; grind
theorem eval_sub (p q : List Rat) (x : Rat) : evalP (subC p q) x = evalP p x - evalP q x := by rw [subC, eval_add, negC, eval_smul]; grind
def mulC : List Rat → List Rat → List Rat
 | [], _ => []
 | a :: p, q => addC (smul a q) (0 :: mulC p q)
theorem eval_mul : ∀ (p q : List Rat) (x : Rat), evalP (mulC p q) x = evalP p x * evalP q x
 | [], q, x => by simp only [mulC, evalP]; grind
 | a :: p, q, x => by simp only [mulC, eval_add, eval_smul, evalP, eval_mul p q x]; grind
theorem cf_mul0 (a : Rat) (p q : List Rat) : cf (mulC (a :: p) q) 0 = a * cf q 0 := by simp only [mulC, cf_add, cf_smul, cf_zero]; grind
theorem cf_mulS (a : Rat) (p q : List Rat) (i : Nat) : cf (mulC (a :: p) q) (i + 1) = a * cf q (i + 1) + cf (mulC p q) i := by simp only [mulC, cf_add, cf_smul, cf_succ]
theorem mul_zero_r : ∀ (p : List Rat) (q : List Rat), (∀ i, cf q i = 0) → ∀ i, cf (mulC p q) i = 0
 | [], q, h, i => rfl
 | a :: p, q, h, 0 => by rw [cf_mul0, h]; grind
 | a :: p, q, h, i + 1 => by rw [cf_mulS, h, mul_zero_r p q h]; grind
theorem mul_eqv_r : ∀ (p : List Rat) {q q' : List Rat}, Eqv q q' → Eqv (mulC p q) (mulC p q')
 | [], q, q', h => Eqv.refl _
 | a :: p, q, q', h => fun i => by
  cases i with
  | zero => rw [cf_mul0, cf_mul0, h]
  | succ i => rw [cf_mulS, cf_mulS, h, mul_eqv_r p h i]
theorem mul_cons_r : ∀ (p : List Rat) (b : Rat) (q : List Rat), Eqv (mulC p (b :: q)) (addC (smul b p) (0 :: mulC p q))
 | [], b, q, i => by
  rw [cf_add]
  cases i <;> simp [mulC, smul] <;> grind
 | a :: p, b, q, 0 => by simp only [cf_mul0, cf_add, cf_smul, cf_zero]; grind
 | a :: p, b, q, i + 1 => by
  have ih := mul_cons_r p b q i
  rw [cf_add, cf_smul] at ih
  rw [cf_mulS, cf_add, cf_smul, cf_succ, cf_succ, cf_succ, ih]
  cases i with
  | zero => rw [cf_mul0, cf_zero]; grind
  | succ i => rw [cf_mulS, cf_succ]; grind
theorem mul_comm_eqv : ∀ (p q : List Rat), Eqv (mulC p q) (mulC q p)
 | [], q, i => by rw [mul_zero_r q [] (fun _ => rfl)]; rfl
 | a :: p, q, i => by
  have h := mul_cons_r q a p i
  have ih := mul_comm_eqv p q
  rw [h]
  cases i with
  | zero => simp only [cf_mul0, cf_add, cf_smul, cf_zero]; grind
  | succ i => rw [cf_mulS, cf_add, cf_smul, cf_succ, ih i]
theorem mul_eqv_l {p p' : List Rat} (q : List Rat) (h : Eqv p p') : Eqv (mulC p q) (mulC p' q) := ((mul_comm_eqv p q).trans (mul_eqv_r q h)).trans (mul_comm_eqv q p')
theorem mul_add_r : ∀ (p q r : List Rat), Eqv (mulC p (addC q r)) (addC (mulC p q) (mulC p r))
 | [], q, r, i => by simp only [mulC, cf_nil, cf_add]; grind
 | a :: p, q, r, 0 => by simp only [cf_mul0, cf_add]; grind
 | a :: p, q, r, i + 1 => by rw [cf_add, cf_mulS, cf_mulS, cf_mulS, mul_add_r p q r i, cf_add, cf_add]; grind
theorem mul_add_l (p q r : List Rat) : Eqv (mulC (addC p q) r) (addC (mulC p r) (mulC q r)) := fun i => by
 rw [mul_comm_eqv, mul_add_r, cf_add, cf_add, mul_comm_eqv r p, mul_comm_eqv r q]
theorem mul_smul_l (c : Rat) : ∀ (p q : List Rat), Eqv (mulC (smul c p) q) (smul c (mulC p q))
 | [], q, i => by simp [smul, mulC]
 | a :: p, q, 0 => by simp only [smul, List.map_cons, cf_mul0]; rw [← smul, cf_smul, cf_mul0]; grind
 | a :: p, q, i + 1 => by
  have ih := mul_smul_l c p q i
  rw [cf_smul] at ih
  simp only [smul, List.map_cons] at ih ⊢
  rw [cf_mulS, ih, ← smul, cf_smul, cf_mulS]; grind
theorem mul_smul_r (c : Rat) (p q : List Rat) : Eqv (mulC p (smul c q)) (smul c (mulC p q)) := fun i => by
 rw [mul_comm_eqv, mul_smul_l, cf_smul, cf_smul, mul_comm_eqv]
theorem mul_shift_l : ∀ (k : Nat) (p q : List Rat), Eqv (mulC (shiftP k p) q) (shiftP k (mulC p q))
 | 0, p, q => fun i => by simp [shiftP]
 | k + 1, p, q => fun i => by
  have e : ∀ (p : List Rat), shiftP (k + 1) p = 0 :: shiftP k p := fun p => by simp [shiftP, List.replicate_succ]
  rw [e, e]
  cases i with
  | zero => rw [cf_mul0, cf_zero]; grind
  | succ i => rw [cf_mulS, cf_succ, mul_shift_l k p q i]; grind
theorem mul_assoc_eqv : ∀ (p q r : List Rat), Eqv (mulC (mulC p q) r) (mulC p (mulC q r))
 | [], q, r, i => rfl
 | a :: p, q, r, i => by
  have h1 : Eqv (mulC (mulC (a :: p) q) r) (addC (mulC (smul a q) r) (mulC (0 :: mulC p q) r)) := mul_add_l _ _ _
  rw [h1, cf_add, mul_smul_l, cf_smul]
  cases i with
  | zero => rw [cf_mul0, cf_mul0]; grind
  | succ i => rw [cf_mulS, cf_mulS, mul_assoc_eqv p q r i]; grind
theorem mul_const (c : Rat) (q : List Rat) : Eqv (mulC [c] q) (smul c q) := fun i => by
 simp only [mulC, cf_add, cf_smul]
 cases i <;> simp <;> grind
theorem add_eqv {p p' q q' : List Rat} (h : Eqv p p') (k : Eqv q q') : Eqv (addC p q) (addC p' q') := fun i => by rw [cf_add, cf_add, h i, k i]
theorem smul_eqv {c : Rat} {p p' : List Rat} (h : Eqv p p') : Eqv (smul c p) (smul c p') := fun i => by rw [cf_smul, cf_smul, h i]
theorem shift_eqv {k : Nat} {p p' : List Rat} (h : Eqv p p') : Eqv (shiftP k p) (shiftP k p') := fun i => by rw [cf_shift, cf_shift, h (i - k)]
theorem mul_high : ∀ (p q : List Rat) (m n : Nat), (∀ i, m < i → cf p i = 0) → (∀ i, n < i → cf q i = 0) → cf (mulC p q) (m + n) = cf p m * cf q n ∧ ∀ i, m + n < i → cf (mulC p q) i = 0
 | [], q, m, n, h1, h2 => by simp [mulC, Rat.zero_mul]
 | a :: p, q, 0, n, h1, h2 => by
  have hp : ∀ i, cf p i = 0 := fun i => by have := h1 (i + 1) (by omega); rwa [cf_succ] at this
  have hz : ∀ i, cf (mulC p q) i = 0 := fun i => by rw [mul_comm_eqv]; exact mul_zero_r q p hp i
  refine ⟨?_, fun i hi => ?_⟩
  ·rw [Nat.zero_add]
   cases n with
   | zero => rw [cf_mul0]; rfl
   | succ n => rw [cf_mulS, hz, cf_zero]; grind
  ·cases i with
   | zero => omega
   | succ i => rw [cf_mulS, hz, h2 _ (by omega)]; grind
 | a :: p, q, m + 1, n, h1, h2 => by
  obtain ⟨e1, e2⟩ := mul_high p q m n (fun i hi => by have := h1 (i + 1) (by omega); rwa [cf_succ] at this) h2
  refine ⟨?_, fun i hi => ?_⟩
  ·rw [show m + 1 + n = (m + n) + 1 by omega, cf_mulS, e1, h2 _ (by omega), cf_succ]; grind
  ·cases i with
   | zero => omega
   | succ i => rw [cf_mulS, e2 _ (by omega), h2 _ (by omega)]; grind
theorem mul_len {p q : List Rat} (hp : Tr p) (hq : Tr q) (p0 : 0 < p.length) (q0 : 0 < q.length) : (trimP (mulC p q)).length = p.length + q.length - 1 ∧ cf (mulC p q) (p.length + q.length - 2) = cf p (p.length - 1) * cf q (q.length - 1) := by
 obtain ⟨e1, e2⟩ := mul_high p q (p.length - 1) (q.length - 1) (fun i hi => cf_ge (by omega)) (fun i hi => cf_ge (by omega))
 have h1 := hp.cf p0
 have h2 := hq.cf q0
 rw [show p.length - 1 + (q.length - 1) = p.length + q.length - 2 by omega] at e1 e2
 have hne : cf (mulC p q) (p.length + q.length - 2) ≠ 0 := by
  rw [e1]; intro h
  rcases Rat.mul_eq_zero.1 h with h | h
  ·exact h1 h
  ·exact h2 h
 refine ⟨Nat.le_antisymm ((tr_trim _).len_lt fun i hi => by rw [cf_trim]; exact e2 i (by omega)) (Nat.le_of_not_lt fun hl => hne ?_), e1⟩
 rw [← cf_trim]; exact cf_ge (by omega)
def lead (p : List Rat) : Rat := cf p (p.length - 1)
theorem lead_ne {p : List Rat} (h : Tr p) (h0 : p ≠ []) : lead p ≠ 0 := h h0
theorem len_smul (c : Rat) (p : List Rat) : (smul c p).length = p.length := by simp [smul]
theorem tr_smul {c : Rat} {p : List Rat} (hc : c ≠ 0) (h : Tr p) : Tr (smul c p) := fun h0 => by
 rw [len_smul, cf_smul]
 intro e
 rcases Rat.mul_eq_zero.1 e with e | e
 ·exact hc e
 ·exact h (fun e => h0 (by rw [e]; rfl)) e
theorem lead_smul (c : Rat) (p : List Rat) : lead (smul c p) = c * lead p := by unfold lead; rw [len_smul, cf_smul]
theorem smul_smul (a b : Rat) (p : List Rat) : smul a (smul b p) = smul (a * b) p := by
 unfold smul; rw [List.map_map]; refine List.map_congr_left fun x _ => ?_
 simp only [Function.comp]; grind
theorem smul_one (p : List Rat) : smul 1 p = p := by
 unfold smul
 have : (fun x : Rat => 1 * x) = id := by funext x; simp [Rat.one_mul]
 rw [this, List.map_id]
theorem smul_eq_nil {c : Rat} {p : List Rat} : smul c p = [] ↔ p = [] := by unfold smul; exact List.map_eq_nil_iff
theorem ne_len {p : List Rat} (h : p ≠ []) : 0 < p.length := List.length_pos_iff.2 h
def remK (r d : List Rat) : Nat := r.length - d.length
def remC (r d : List Rat) : Rat := lead r / lead d
def stepRP (r d : List Rat) : List Rat := trimP (subC r (shiftP (remK r d) (smul (remC r d) d)))
def stepQP (q r d : List Rat) : List Rat := trimP (addC q (shiftP (remK r d) [remC r d]))
theorem cf_stepRP (r d : List Rat) (i : Nat) : cf (stepRP r d) i = cf r i - (if i < remK r d then 0 else remC r d * cf d (i - remK r d)) := by
 unfold stepRP; rw [cf_trim, cf_sub, cf_shift]; split
 ·rfl
 ·rw [cf_smul]
theorem stepRP_len {r d : List Rat} (hr : Tr r) (hd : Tr d) (d0 : d ≠ []) (h : d.length ≤ r.length) : (stepRP r d).length < r.length := by
 have h0 := ne_len d0
 have := (show Tr (stepRP r d) from tr_trim _).len_lt (n := r.length - 1) fun i hi => by
  rw [cf_stepRP]
  by_cases e : i = r.length - 1
  ·subst e
   rw [if_neg (by unfold remK; omega)]
   have e2 : r.length - 1 - remK r d = d.length - 1 := by unfold remK; omega
   rw [e2]
   have hl := lead_ne hd d0
   unfold remC
   unfold lead at *
   grind
  ·rw [cf_ge (by omega)]
   split
   ·grind
   ·rw [cf_ge (p := d) (by unfold remK; omega)]; grind
 omega
theorem stepRP_mul (q r d : List Rat) : Eqv (addC (mulC (stepQP q r d) d) (stepRP r d)) (addC (mulC q d) r) := fun i => by
 have h1 := mul_eqv_l d (trim_eqv (addC q (shiftP (remK r d) [remC r d]))) i
 have h2 := mul_add_l q (shiftP (remK r d) [remC r d]) d i
 have h3 := mul_shift_l (remK r d) [remC r d] d i
 have h4 := shift_eqv (k := remK r d) (mul_const (remC r d) d) i
 rw [cf_add, cf_add, cf_stepRP]
 unfold stepQP
 rw [h1, h2, cf_add, h3, h4, cf_shift]
 split
 ·grind
 ·rw [cf_smul]; grind
def divL : Nat → List Rat → List Rat → List Rat → List Rat × List Rat
 | 0, q, r, d => (q, r)
 | n + 1, q, r, d => if r.length < d.length then (q, r) else divL n (stepQP q r d) (stepRP r d) d
theorem divL_spec {d : List Rat} (hd : Tr d) (d0 : d ≠ []) : ∀ (n : Nat) (q r : List Rat), Tr r → r.length < n → Tr (divL n q r d).2 ∧ (divL n q r d).2.length < d.length ∧ Eqv (addC (mulC (divL n q r d).1 d) (divL n q r d).2) (addC (mulC q d) r)
 | 0, q, r, hr, h => by omega
 | n + 1, q, r, hr, h => by
  unfold divL
  split
  ·rename_i h1; exact ⟨hr, h1, Eqv.refl _⟩
  ·rename_i h1
   have hl := stepRP_len hr hd d0 (by omega)
   obtain ⟨a, b, c⟩ := divL_spec hd d0 n (stepQP q r d) (stepRP r d) (tr_trim _) (by omega)
   exact ⟨a, b, c.trans (stepRP_mul q r d)⟩
theorem divL_tr {d : List Rat} : ∀ (n : Nat) (q r : List Rat), Tr q → Tr (divL n q r d).1
 | 0, q, r, h => h
 | n + 1, q, r, h => by
  unfold divL; split
  ·exact h
  ·exact divL_tr n _ _ (tr_trim _)
def divP (p d : List Rat) : List Rat × List Rat := divL (p.length + 1) [] p d
def remP (p d : List Rat) : List Rat := (divP p d).2
theorem divP_spec {p d : List Rat} (hp : Tr p) (hd : Tr d) (d0 : d ≠ []) : Tr (divP p d).1 ∧ Tr (divP p d).2 ∧ (divP p d).2.length < d.length ∧ Eqv (addC (mulC (divP p d).1 d) (divP p d).2) p := by
 obtain ⟨a, b, c⟩ := divL_spec hd d0 (p.length + 1) [] p hp (by omega)
 refine ⟨divL_tr _ _ _ Tr.nil, a, b, c.trans fun i => ?_⟩
 rw [cf_add]; simp only [mulC, cf_nil]; grind
theorem div_unique {q r q' r' d : List Rat} (hd : Tr d) (d0 : d ≠ []) (h1 : r.length < d.length) (h2 : r'.length < d.length) (h : Eqv (addC (mulC q d) r) (addC (mulC q' d) r')) : Eqv q q' ∧ Eqv r r' := by
 have hz : trimP (subC q q') = [] := by
  refine Classical.byContradiction fun hne => ?_
  have hl := mul_len (tr_trim (subC q q')) hd (ne_len hne) (ne_len d0)
  have l1 := ne_len hne
  have l2 := ne_len d0
  have a1 := (tr_trim (subC q q')).cf l1
  have a2 := hd.cf l2
  generalize hN : (trimP (subC q q')).length + d.length - 2 = N at hl
  have e : cf (mulC (trimP (subC q q')) d) N = 0 := by
   rw [mul_eqv_l d (trim_eqv (subC q q')) N]
   have e1 : Eqv (mulC (subC q q') d) (subC (mulC q d) (mulC q' d)) := fun i => by
    have h3 : Eqv (mulC (negC q') d) (negC (mulC q' d)) := mul_smul_l (-1) q' d
    unfold subC
    rw [mul_add_l, cf_add, cf_add, h3 i]
   rw [e1 N, cf_sub]
   have := h N
   rw [cf_add, cf_add, cf_ge (p := r) (by omega), cf_ge (p := r') (by omega)] at this
   grind
  rw [hl.2] at e
  rcases Rat.mul_eq_zero.1 e with e | e
  ·exact a1 e
  ·exact a2 e
 have hq : Eqv q q' := fun i => by
  have := (trim_nil_iff _).1 hz i
  rw [cf_sub] at this; grind
 refine ⟨hq, fun i => ?_⟩
 have := h i
 rw [cf_add, cf_add, mul_eqv_l d hq i] at this
 grind
theorem divP_unique {p d q r : List Rat} (hp : Tr p) (hd : Tr d) (d0 : d ≠ []) (hq : Tr q) (hr : Tr r) (hl : r.length < d.length) (h : Eqv (addC (mulC q d) r) p) : divP p d = (q, r) := by
 obtain ⟨a, b, c, e⟩ := divP_spec hp hd d0
 obtain ⟨h1, h2⟩ := div_unique hd d0 c hl (e.trans h.symm)
 exact Prod.ext (a.ext hq h1) (b.ext hr h2)
theorem remP_smul {p d : List Rat} (hp : Tr p) (hd : Tr d) (d0 : d ≠ []) {a b : Rat} (ha : a ≠ 0) (hb : b ≠ 0) : remP (smul a p) (smul b d) = smul a (remP p d) := by
 obtain ⟨h1, h2, h3, h4⟩ := divP_spec hp hd d0
 have hab : a / b ≠ 0 := by
  intro h
  have : a = a / b * b := by grind
  rw [h] at this; grind
 have := divP_unique (p := smul a p) (d := smul b d) (q := smul (a / b) (divP p d).1) (r := smul a (divP p d).2) (tr_smul ha hp) (tr_smul hb hd) (by rw [ne_eq, smul_eq_nil]; exact d0) (tr_smul hab h1) (tr_smul ha h2) (by rw [len_smul, len_smul]; exact h3) (fun i => by
  rw [cf_add, mul_smul_l, cf_smul, mul_smul_r, cf_smul, cf_smul, cf_smul, ← h4 i, cf_add]
  grind)
 unfold remP
 rw [this]
def monicP (p : List Rat) : List Rat := smul (1 / lead p) p
theorem monic_smul {c : Rat} {p : List Rat} (hc : c ≠ 0) : monicP (smul c p) = monicP p := by
 unfold monicP
 rw [lead_smul, smul_smul]
 congr 1
 grind
theorem monic_nil : monicP [] = [] := rfl
theorem tr_monic {p : List Rat} (h : Tr p) : Tr (monicP p) := by
 by_cases h0 : p = []
 ·subst h0; exact Tr.nil
 ·have := lead_ne h h0
  exact tr_smul (by grind) h
theorem lead_monic {p : List Rat} (h : Tr p) (h0 : p ≠ []) : lead (monicP p) = 1 := by
 have := lead_ne h h0
 unfold monicP; rw [lead_smul]; grind
def gcdL : Nat → List Rat → List Rat → List Rat
 | 0, p, _ => monicP p
 | n + 1, p, q => if q = [] then monicP p else gcdL n q (remP p q)
theorem tr_rem {p d : List Rat} (hp : Tr p) (hd : Tr d) (d0 : d ≠ []) : Tr (remP p d) := (divP_spec hp hd d0).2.1
theorem rem_len {p d : List Rat} (hp : Tr p) (hd : Tr d) (d0 : d ≠ []) : (remP p d).length < d.length := (divP_spec hp hd d0).2.2.1
theorem gcdL_smul : ∀ (n : Nat) {p q : List Rat} {a b : Rat}, Tr p → Tr q → a ≠ 0 → b ≠ 0 → gcdL n (smul a p) (smul b q) = gcdL n p q
 | 0, p, q, a, b, hp, hq, ha, hb => monic_smul ha
 | n + 1, p, q, a, b, hp, hq, ha, hb => by
  unfold gcdL
  by_cases h : q = []
  ·rw [if_pos h, if_pos (smul_eq_nil.2 h), monic_smul ha]
  ·rw [if_neg h, if_neg (mt smul_eq_nil.1 h), remP_smul hp hq h ha hb]
   exact gcdL_smul n hq (tr_rem hp hq h) hb ha
theorem gcdL_fuel : ∀ (n m : Nat) {p q : List Rat}, Tr p → Tr q → q.length ≤ n → q.length ≤ m → gcdL n p q = gcdL m p q
 | 0, 0, p, q, _, _, _, _ => rfl
 | 0, m + 1, p, q, _, _, h, _ => by
  have : q = [] := List.eq_nil_of_length_eq_zero (by omega)
  unfold gcdL; rw [if_pos this]
 | n + 1, 0, p, q, _, _, _, h => by
  have : q = [] := List.eq_nil_of_length_eq_zero (by omega)
  unfold gcdL; rw [if_pos this]
 | n + 1, m + 1, p, q, hp, hq, h1, h2 => by
  unfold gcdL
  by_cases h : q = []
  ·rw [if_pos h, if_pos h]
  ·rw [if_neg h, if_neg h]
   have := rem_len hp hq h
   exact gcdL_fuel n m hq (tr_rem hp hq h) (by omega) (by omega)
def gcdP (p q : List Rat) : List Rat := gcdL q.length p q
theorem gcdP_nil (p : List Rat) : gcdP p [] = monicP p := rfl
theorem gcdP_step {p q : List Rat} (hp : Tr p) (hq : Tr q) (h : q ≠ []) {a b : Rat} (ha : a ≠ 0) (hb : b ≠ 0) : gcdP p q = gcdP (smul a q) (smul b (remP p q)) := by
 unfold gcdP
 rw [len_smul, gcdL_smul _ hq (tr_rem hp hq h) ha hb]
 obtain ⟨n, hn⟩ : ∃ n, q.length = n + 1 := ⟨q.length - 1, by have := ne_len h; omega⟩
 rw [hn]
 conv => lhs; unfold gcdL
 rw [if_neg h]
 have := rem_len hp hq h
 exact gcdL_fuel _ _ hq (tr_rem hp hq h) (by omega) (by omega)
def derC (p : List Rat) : List Rat := (p.mapIdx fun i x => (i : Rat) * x).drop 1
theorem cf_der (p : List Rat) (i : Nat) : cf (derC p) i = ((i + 1 : Nat) : Rat) * cf p (i + 1) := by
 unfold derC cf
 rw [List.getD_eq_getElem?_getD, List.getD_eq_getElem?_getD, List.getElem?_drop, List.getElem?_mapIdx, Nat.add_comm 1 i]
 cases p[i + 1]? with
 | none => simp [Rat.mul_zero]
 | some x => rfl
def derP (p : List Rat) : List Rat := trimP (derC p)
theorem derC_len (p : List Rat) : (derC p).length = p.length - 1 := by simp [derC]
def chainL (ch : List Rat → List Rat) : Nat → List Rat → List Rat → List (List Rat)
 | 0, _, _ => []
 | n + 1, a, b => if a = [] then [] else if b = [] then [a] else a :: chainL ch n b (ch (negC (remP a b)))
theorem tr_neg {p : List Rat} (h : Tr p) : Tr (negC p) := tr_smul (by decide) h
def HtP (h : Nat) (p : List Rat) : Prop := ∃ (c : Int) (P : Nat → Int), c ≠ 0 ∧ ln c.natAbs < h ∧ ∀ i, ln (P i).natAbs < h ∧ cf p i = Rat.divInt (P i) c
theorem HtP.ok {h : Nat} {p : List Rat} (H : HtP h p) (i : Nat) : okQ h (cf p i) := by
 obtain ⟨c, P, c0, hc, hp⟩ := H
 rw [(hp i).2]
 exact okQ_divInt c0 (hp i).1 hc
theorem HtP.okL {h : Nat} {p : List Rat} (H : HtP h p) : ∀ x ∈ p, okQ h x := fun x hx => by
 obtain ⟨i, hi, rfl⟩ := List.mem_iff_getElem.1 hx
 rw [← cf_eq hi]; exact H.ok i
theorem HtP.mono {h k : Nat} {p : List Rat} (H : HtP h p) (hk : h ≤ k) : HtP k p := by
 obtain ⟨c, P, c0, hc, hp⟩ := H
 exact ⟨c, P, c0, by omega, fun i => ⟨by have := (hp i).1; omega, (hp i).2⟩⟩
theorem HtP.eqv {h : Nat} {p q : List Rat} (H : HtP h p) (e : Eqv q p) : HtP h q := by
 obtain ⟨c, P, c0, hc, hp⟩ := H
 exact ⟨c, P, c0, hc, fun i => ⟨(hp i).1, (e i).trans (hp i).2⟩⟩
theorem HtP.trim {h : Nat} {p : List Rat} (H : HtP h p) : HtP h (trimP p) := H.eqv (trim_eqv p)
theorem HtP.zero {p : List Rat} (h : ∀ i, cf p i = 0) : HtP 2 p := ⟨1, fun _ => 0, by decide, by show ln 1 < 2; rw [ln_one]; decide, fun i => ⟨by show ln 0 < 2; rw [ln_zero]; decide, by rw [h i]; exact (Rat.zero_divInt 1).symm⟩⟩
theorem HtP.nil : HtP 2 [] := HtP.zero fun _ => rfl
theorem ln_mulZ {a b : Int} {h k : Nat} (ha : ln a.natAbs < h) (hb : ln b.natAbs < k) : ln (a * b).natAbs < h + k - 1 := by
 rw [Int.natAbs_mul]
 have := ln_mul a.natAbs b.natAbs
 omega
theorem ln_addZ {a b : Int} {h : Nat} (ha : ln a.natAbs < h) (hb : ln b.natAbs < h) : ln (a + b).natAbs < h + 1 := by
 have h1 := ln_mono (Int.natAbs_add_le a b)
 have h2 := ln_add1 (m := a.natAbs) (n := b.natAbs) (k := h - 1) (by omega) (by omega)
 omega
theorem ln_negZ {a : Int} {h : Nat} (ha : ln a.natAbs < h) : ln (-a).natAbs < h := by rw [Int.natAbs_neg]; exact ha
theorem ln_subZ {a b : Int} {h : Nat} (ha : ln a.natAbs < h) (hb : ln b.natAbs < h) : ln (a - b).natAbs < h + 1 := by
 rw [Int.sub_eq_add_neg]; exact ln_addZ ha (ln_negZ hb)
theorem divInt_mulR {a c k : Int} (hk : k ≠ 0) : Rat.divInt (a * k) (c * k) = Rat.divInt a c := Rat.divInt_mul_right hk
theorem HtP.of_ok {k : Nat} (hk : 1 < k) : ∀ (p : List Rat), (∀ x ∈ p, okQ k x) → HtP (p.length * k + 2) p
 | [], _ => HtP.nil.mono (by simp)
 | a :: p, h => by
  obtain ⟨c, P, c0, hc, hp⟩ := HtP.of_ok hk p fun x hx => h x (by simp [hx])
  obtain ⟨a1, a2⟩ := h a (by simp)
  have l1 : ln (a.den : Int).natAbs < k := by rw [Int.natAbs_natCast]; exact a2
  have e : (a :: p).length * k + 2 = p.length * k + k + 2 := by rw [List.length_cons, Nat.add_mul]; omega
  rw [e]
  refine ⟨c * a.den, fun i => match i with | 0 => c * a.num | i + 1 => P i * a.den, ?_, ?_, fun i => ?_⟩
  ·exact Int.mul_ne_zero c0 (den_ne a)
  ·have := ln_mulZ hc l1; omega
  ·cases i with
   | zero =>
    refine ⟨by have := ln_mulZ hc (k := k) a1; simp only; omega, ?_⟩
    simp only [cf_zero]
    rw [Int.mul_comm c, Int.mul_comm c, divInt_mulR c0, Rat.num_divInt_den]
   | succ i =>
    refine ⟨by have := ln_mulZ (hp i).1 l1; simp only; omega, ?_⟩
    simp only [cf_succ]
    rw [divInt_mulR (den_ne a)]; exact (hp i).2
theorem HtP.neg {h : Nat} {p : List Rat} (H : HtP h p) : HtP h (negC p) := by
 obtain ⟨c, P, c0, hc, hp⟩ := H
 refine ⟨c, fun i => - P i, c0, hc, fun i => ⟨ln_negZ (hp i).1, ?_⟩⟩
 rw [cf_neg, (hp i).2, Rat.neg_divInt]
theorem HtP.smul {h k : Nat} {p : List Rat} {x : Rat} (H : HtP h p) (hx : okQ k x) : HtP (h + k) (smul x p) := by
 obtain ⟨c, P, c0, hc, hp⟩ := H
 obtain ⟨x1, x2⟩ := hx
 refine ⟨x.den * c, fun i => x.num * P i, Int.mul_ne_zero (den_ne x) c0, ?_, fun i => ⟨?_, ?_⟩⟩
 ·have := ln_mulZ (a := (x.den : Int)) (h := k) (by rw [Int.natAbs_natCast]; exact x2) hc; omega
 ·have := ln_mulZ (a := x.num) (h := k) x1 (hp i).1; dsimp only; omega
 ·rw [cf_smul, (hp i).2]
  conv => lhs; rw [← Rat.num_divInt_den x]
  rw [Rat.divInt_mul_divInt]
theorem HtP.add {h k : Nat} {p q : List Rat} (H : HtP h p) (K : HtP k q) : HtP (h + k) (addC p q) := by
 obtain ⟨c, P, c0, hc, hp⟩ := H
 obtain ⟨d, Q, d0, hd, hq⟩ := K
 refine ⟨c * d, fun i => P i * d + Q i * c, Int.mul_ne_zero c0 d0, ?_, fun i => ⟨?_, ?_⟩⟩
 ·have := ln_mulZ hc hd; omega
 ·have h1 := ln_mulZ (hp i).1 hd
  have h2 := ln_mulZ (hq i).1 hc
  have := ln_addZ (a := P i * d) (b := Q i * c) (h := h + k - 1) h1 (by omega)
  dsimp only
  omega
 ·rw [cf_add, (hp i).2, (hq i).2, Rat.divInt_add_divInt _ _ c0 d0]
theorem HtP.sub {h k : Nat} {p q : List Rat} (H : HtP h p) (K : HtP k q) : HtP (h + k) (subC p q) := H.add K.neg
theorem HtP.shift {h k : Nat} {p : List Rat} (H : HtP h p) : HtP h (shiftP k p) := by
 obtain ⟨c, P, c0, hc, hp⟩ := H
 refine ⟨c, fun i => if i < k then 0 else P (i - k), c0, hc, fun i => ?_⟩
 rw [cf_shift]
 dsimp only
 split
 ·exact ⟨by show ln 0 < h; rw [ln_zero]; omega, (Rat.zero_divInt c).symm⟩
 ·exact hp (i - k)
theorem divInt_ne {a c : Int} (h : Rat.divInt a c ≠ 0) : a ≠ 0 := fun e => h (by rw [e, Rat.zero_divInt])
theorem divInt_div2 {a b c d : Int} (hc : c ≠ 0) (hb : b ≠ 0) (hd : d ≠ 0) : Rat.divInt a c / Rat.divInt b d = Rat.divInt (a * d) (c * b) := by
 rw [Rat.div_def, Rat.inv_divInt, Rat.divInt_mul_divInt]
theorem HtP.monic {h : Nat} {p : List Rat} (H : HtP h p) : HtP (h + 1) (monicP p) := by
 obtain ⟨c, P, c0, hc, hp⟩ := H
 by_cases h0 : lead p = 0
 ·refine (HtP.zero (p := monicP p) fun i => ?_).mono (by omega)
  unfold monicP
  rw [cf_smul, h0]
  have : (1 : Rat) / 0 = 0 := by rw [Rat.div_def, Rat.inv_zero, Rat.mul_zero]
  rw [this, Rat.zero_mul]
 ·have e := (hp (p.length - 1)).2
  have hne := divInt_ne (a := P (p.length - 1)) (c := c) (by rw [← e]; exact h0)
  refine ⟨P (p.length - 1), P, hne, by have := (hp (p.length - 1)).1; omega, fun i => ⟨by have := (hp i).1; omega, ?_⟩⟩
  unfold monicP
  rw [cf_smul, (hp i).2]
  show 1 / cf p (p.length - 1) * _ = _
  rw [e]
  have : 1 / Rat.divInt (P (p.length - 1)) c * Rat.divInt (P i) c = Rat.divInt (P i) c / Rat.divInt (P (p.length - 1)) c := by grind
  rw [this, divInt_div2 c0 hne c0, Int.mul_comm c, divInt_mulR c0]
theorem remC_ok {h l : Nat} {r d : List Rat} (H : HtP h r) (L : HtP l d) (hd : lead d ≠ 0) : okQ (h + l) (remC r d) := by
 unfold remC
 have h1 : okQ h (lead r) := H.ok _
 have h2 : okQ l (lead d) := L.ok _
 exact h1.div h2 hd
theorem HtP.stepRP {h l : Nat} {r d : List Rat} (H : HtP h r) (L : HtP l d) (hd : lead d ≠ 0) : HtP (h + l) (stepRP r d) := by
 obtain ⟨c, R, c0, hc, hr⟩ := H
 obtain ⟨e, E, e0, he, hE⟩ := L
 have e1 := (hE (d.length - 1)).2
 have e2 := (hr (r.length - 1)).2
 have hne := divInt_ne (a := E (d.length - 1)) (c := e) (by rw [← e1]; exact hd)
 have l0 := (hE (d.length - 1)).1
 have r0' := (hr (r.length - 1)).1
 refine ⟨c * E (d.length - 1), fun i => R i * E (d.length - 1) - (if i < remK r d then 0 else R (r.length - 1) * E (i - remK r d)), Int.mul_ne_zero c0 hne, ?_, fun i => ⟨?_, ?_⟩⟩
 ·have := ln_mulZ hc l0; omega
 ·have h1 := ln_mulZ (hr i).1 l0
  have h2 : ln (if i < remK r d then 0 else R (r.length - 1) * E (i - remK r d)).natAbs < h + l - 1 := by
   split
   ·show ln 0 < _; rw [ln_zero]; omega
   ·exact ln_mulZ r0' (hE (i - remK r d)).1
  have := ln_subZ h1 h2
  dsimp only
  omega
 ·rw [cf_stepRP, (hr i).2]
  dsimp only
  split
  ·rw [Int.sub_zero, divInt_mulR hne]; grind
  ·have hq : remC r d * cf d (i - remK r d) = Rat.divInt (R (r.length - 1) * E (i - remK r d)) (c * E (d.length - 1)) := by
    unfold remC lead
    rw [e1, e2, (hE (i - remK r d)).2, divInt_div2 c0 hne e0, Rat.divInt_mul_divInt]
    rw [show R (r.length - 1) * e * E (i - remK r d) = R (r.length - 1) * E (i - remK r d) * e by rw [Int.mul_assoc, Int.mul_assoc, Int.mul_comm e], divInt_mulR e0]
   rw [hq, ← divInt_mulR (a := R i) (c := c) hne, Rat.sub_eq_add_neg, Rat.neg_divInt, Rat.divInt_add_divInt _ _ (Int.mul_ne_zero c0 hne) (Int.mul_ne_zero c0 hne), ← Int.add_mul, divInt_mulR (Int.mul_ne_zero c0 hne), ← Int.sub_eq_add_neg]
theorem divL_ht {d : List Rat} {l : Nat} (hd : Tr d) (d0 : d ≠ []) (L : HtP l d) : ∀ (n h : Nat) (q r : List Rat), Tr r → HtP h r → HtP (h + (r.length + 1 - d.length) * l) (divL n q r d).2
 | 0, h, q, r, hr, H => H.mono (by omega)
 | n + 1, h, q, r, hr, H => by
  unfold divL
  split
  ·exact H.mono (by omega)
  ·rename_i hl
   have h1 := stepRP_len hr hd d0 (by omega)
   have h2 := divL_ht hd d0 L n (h + l) (stepQP q r d) (stepRP r d) (tr_trim _) (H.stepRP L (lead_ne hd d0))
   refine h2.mono ?_
   obtain ⟨m, hm⟩ : ∃ m, r.length + 1 - d.length = m + 1 := ⟨r.length - d.length, by omega⟩
   have h3 : ((stepRP r d).length + 1 - d.length) * l ≤ m * l := Nat.mul_le_mul_right _ (by omega)
   rw [hm, Nat.add_mul]
   omega
theorem remP_ht {p d : List Rat} {h l : Nat} (hp : Tr p) (hd : Tr d) (d0 : d ≠ []) (H : HtP h p) (L : HtP l d) : HtP (h + (p.length + 1 - d.length) * l) (remP p d) := divL_ht hd d0 L _ _ _ _ hp H
theorem pow3_ge : ∀ e : Nat, 1 ≤ e → e + 2 ≤ 3 ^ e
 | 1, _ => by decide
 | e + 2, _ => by have := pow3_ge (e + 1) (by omega); rw [Nat.pow_succ]; omega
theorem len_lt_pow3 (n : Nat) : n + 1 ≤ 3 ^ n := by
 rcases Nat.eq_zero_or_pos n with h | h
 ·subst h; decide
 ·have := pow3_ge n h; omega
def Bud : Nat := 2000000
def Fit (n : Nat) (f : List Rat) (M : Nat) : Prop := HtP M f ∧ (M + 1) * 3 ^ n ≤ Bud
structure JS (a b : List Rat) (M : Nat) : Prop where
 ta : Tr a
 tb : Tr b
 lt : a ≠ [] → b.length < a.length
 ha : HtP M a
 hb : HtP M b
 bud : (M + 1) * 3 ^ a.length ≤ Bud
theorem JS.rem {a b : List Rat} {M : Nat} (h : JS a b M) (a0 : a ≠ []) (b0 : b ≠ []) : HtP ((a.length - b.length + 2) * M) (remP a b) ∧ ((a.length - b.length + 2) * M + 1 + 1) * 3 ^ b.length ≤ Bud ∧ M + (a.length + 1 - b.length) * M + M ≤ 2000000 ∧ (a.length - b.length + 2) * M ≤ 2000000 ∧ M ≤ (a.length - b.length + 2) * M := by
 have hl := h.lt a0
 have hb := ne_len b0
 obtain ⟨e, he⟩ : ∃ e, a.length - b.length = e := ⟨_, rfl⟩
 have e1 : 1 ≤ e := by omega
 have p := pow3_ge e e1
 have hr := remP_ht h.ta h.tb b0 h.ha h.hb
 rw [he]
 have e2 : a.length + 1 - b.length = e + 1 := by omega
 rw [e2] at hr ⊢
 have e3 : M + (e + 1) * M = (e + 2) * M := by rw [Nat.add_mul, Nat.add_mul]; omega
 rw [e3] at hr ⊢
 have e4 : 3 ^ a.length = 3 ^ e * 3 ^ b.length := by rw [← Nat.pow_add]; congr 1; omega
 have bud := h.bud
 rw [e4] at bud
 have k1 : (e + 2) * M + 1 + 1 ≤ (M + 1) * 3 ^ e := by
  have := Nat.mul_le_mul_left (M + 1) p
  have e5 : (M + 1) * (e + 2) = (e + 2) * M + (e + 2) := by rw [Nat.add_mul, Nat.mul_comm M]; omega
  omega
 have k2 : ((e + 2) * M + 1 + 1) * 3 ^ b.length ≤ Bud := by
  refine Nat.le_trans (Nat.mul_le_mul_right _ k1) ?_
  rw [Nat.mul_assoc]; exact bud
 have k3 : 3 ≤ 3 ^ b.length := by
  have := Nat.pow_le_pow_right (show 0 < 3 by decide) hb
  simpa using this
 have k4 : ((e + 2) * M + 1 + 1) * 3 ≤ Bud := Nat.le_trans (Nat.mul_le_mul_left _ k3) k2
 have k5 : M ≤ (e + 2) * M := Nat.le_mul_of_pos_left M (by omega)
 unfold Bud at k4
 exact ⟨hr, k2, by omega, by omega, k5⟩
structure ChOk (ch : List Rat → List Rat) : Prop where
 tr : ∀ p, Tr p → Tr (ch p)
 len : ∀ p, (ch p).length = p.length
 ht : ∀ p h, Tr p → HtP h p → HtP (h + 1) (ch p)
theorem ChOk.id : ChOk id := ⟨fun _ h => h, fun _ => rfl, fun _ _ _ h => h.mono (by omega)⟩
theorem JS.next {ch : List Rat → List Rat} (hc : ChOk ch) {a b : List Rat} {M : Nat} (h : JS a b M) (a0 : a ≠ []) (b0 : b ≠ []) : ∃ M', JS b (ch (negC (remP a b))) M' := by
 obtain ⟨h1, h2, _, _, h5⟩ := h.rem a0 b0
 have ht := tr_rem h.ta h.tb b0
 have hl := rem_len h.ta h.tb b0
 refine ⟨(a.length - b.length + 2) * M + 1, h.tb, hc.tr _ (tr_neg ht), fun _ => ?_, h.hb.mono (by omega), hc.ht _ _ (tr_neg ht) h1.neg, h2⟩
 rw [hc.len]
 show (smul (-1) _).length < _
 rw [len_smul]; exact hl
theorem JS.chain {ch : List Rat → List Rat} (hc : ChOk ch) : ∀ (n : Nat) {a b : List Rat} {M : Nat}, JS a b M → ∀ f ∈ chainL ch n a b, Tr f ∧ ∃ M', Fit f.length f M'
 | 0, _, _, _, _, f, hf => by simp [chainL] at hf
 | n + 1, a, b, M, h, f, hf => by
  rw [chainL] at hf
  split at hf
  ·simp at hf
  ·rename_i a0
   split at hf
   ·simp only [List.mem_singleton] at hf
    subst hf
    exact ⟨h.ta, M, h.ha, h.bud⟩
   ·rename_i b0
    rcases List.mem_cons.1 hf with rfl | hf
    ·exact ⟨h.ta, M, h.ha, h.bud⟩
    ·obtain ⟨M', h'⟩ := h.next hc a0 b0
     exact JS.chain hc n h' f hf
theorem chain_len (ch : List Rat → List Rat) : ∀ (n : Nat) (a b : List Rat), (chainL ch n a b).length ≤ n
 | 0, _, _ => by simp [chainL]
 | n + 1, a, b => by
  rw [chainL]
  split
  ·simp
  ·split
   ·simp
   ·have := chain_len ch n b (ch (negC (remP a b)))
    simp; exact this
theorem derP_lt {p : List Rat} (h : trimP p ≠ []) : (derP p).length < (trimP p).length := by
 have h0 := ne_len h
 have h1 : (derP p).length ≤ (trimP p).length - 1 := (tr_trim (derC p)).len_lt fun i hi => by
  show cf (trimP (derC p)) i = 0
  rw [cf_trim, cf_der, ← cf_trim p, cf_ge (by omega), Rat.mul_zero]
 omega
structure JG (p q : List Rat) : Prop where
 tp : Tr p
 tq : Tr q
 fit : ∃ M, HtP M p ∧ HtP M q ∧ (M + 1) * 3 ^ (if q.length < p.length then p.length else q.length + 1) ≤ Bud
theorem JG.step {p q : List Rat} (h : JG p q) (q0 : q ≠ []) : ∃ M, HtP M p ∧ HtP M q ∧ M + (p.length + 1 - q.length) * M + M ≤ 2000000 ∧ JG (monicP q) (remP p q) := by
 obtain ⟨M, h1, h2, h3⟩ := h.fit
 have hr := remP_ht h.tp h.tq q0 h1 h2
 have hl := rem_len h.tp h.tq q0
 have hq := ne_len q0
 have hml : (monicP q).length = q.length := len_smul _ _
 have hm := h2.monic
 have k3 : 3 ≤ 3 ^ q.length := by
  have := Nat.pow_le_pow_right (show 0 < 3 by decide) hq
  simpa using this
 obtain ⟨B, hB⟩ : ∃ B, (p.length + 1 - q.length) * M = B := ⟨_, rfl⟩
 have k1 : (M + B + 1 + 1) * 3 ^ q.length ≤ Bud := by
  by_cases c : q.length < p.length
  ·rw [if_pos c] at h3
   obtain ⟨e, he⟩ : ∃ e, p.length - q.length = e := ⟨_, rfl⟩
   have p3 := pow3_ge e (by omega)
   have e4 : 3 ^ p.length = 3 ^ e * 3 ^ q.length := by rw [← Nat.pow_add]; congr 1; omega
   rw [e4, ← Nat.mul_assoc] at h3
   refine Nat.le_trans (Nat.mul_le_mul_right _ ?_) h3
   rw [show p.length + 1 - q.length = e + 1 by omega, Nat.add_mul, Nat.one_mul] at hB
   have := Nat.mul_le_mul_left (M + 1) p3
   have e5 : (M + 1) * (e + 2) = e * M + 2 * M + (e + 2) := by rw [Nat.add_mul, Nat.mul_add, Nat.mul_comm M e]; omega
   omega
  ·rw [if_neg c, Nat.pow_succ, Nat.mul_comm (3 ^ q.length) 3, ← Nat.mul_assoc] at h3
   refine Nat.le_trans (Nat.mul_le_mul_right _ ?_) h3
   have : B ≤ M := by
    rw [← hB]
    rcases Nat.lt_or_ge (p.length + 1 - q.length) 1 with g | g
    ·rw [show p.length + 1 - q.length = 0 by omega]; omega
    ·rw [show p.length + 1 - q.length = 1 by omega]; omega
   omega
 have k2 := Nat.le_trans (Nat.mul_le_mul_left (M + B + 1 + 1) k3) k1
 unfold Bud at k2
 refine ⟨M, h1, h2, by omega, tr_monic h.tq, tr_rem h.tp h.tq q0, M + B + 1, hm.mono (by omega), (hB ▸ hr).mono (by omega), ?_⟩
 rw [hml, if_pos hl]
 exact k1
theorem JG.of {a b : List Rat} {M : Nat} (ta : Tr a) (tb : Tr b) (ha : HtP M a) (hb : HtP M b) (h : (M + 1) * 3 ^ (max a.length (b.length + 1)) ≤ Bud) : JG a b := ⟨ta, tb, M, ha, hb, by
 refine Nat.le_trans (Nat.mul_le_mul_left _ (Nat.pow_le_pow_right (by decide) ?_)) h
 split <;> omega⟩
theorem mul_snoc : ∀ (p : List Rat) (a : Rat) (q : List Rat), Eqv (mulC (p ++ [a]) q) (addC (mulC p q) (shiftP p.length (smul a q)))
 | [], a, q => fun i => by
  rw [List.nil_append, mul_const a q i, cf_add, cf_shift]
  simp [mulC, Rat.zero_add]
 | b :: p, a, q => fun i => by
  cases i with
  | zero =>
   rw [List.cons_append, cf_mul0, cf_add, cf_mul0, cf_shift]
   simp [Rat.add_zero]
  | succ i =>
   rw [List.cons_append, cf_mulS, mul_snoc p a q i, cf_add, cf_add, cf_mulS, cf_shift, cf_shift]
   simp only [List.length_cons, Nat.add_lt_add_iff_right, Nat.add_sub_add_right]
   grind
def rowV (p q : List Rat) (i j k : Nat) : Rat := cf (mulC (p.take i) q) k + cf (shiftP i (smul (cf p i) (q.take j))) k
theorem rowV_zero (p q : List Rat) (k : Nat) : rowV p q 0 0 k = 0 := by
 unfold rowV
 rw [cf_shift, cf_smul, cf_take]
 simp [mulC, Rat.add_zero]
theorem rowV_step (p q : List Rat) (i j k : Nat) : rowV p q i (j + 1) k = rowV p q i j k + if k = i + j then cf p i * cf q j else 0 := by
 unfold rowV
 rw [cf_shift, cf_shift, cf_smul, cf_smul, cf_take, cf_take]
 by_cases h : k < i
 ·rw [if_pos h, if_pos h, if_neg (show ¬ k = i + j by omega)]; grind
 ·rw [if_neg h, if_neg h]
  by_cases e : k = i + j
  ·subst e
   rw [if_pos rfl, if_pos (show i + j - i < j + 1 by omega), if_neg (show ¬ i + j - i < j by omega), show i + j - i = j by omega]
   grind
  ·rw [if_neg e]
   by_cases g : k - i < j
   ·rw [if_pos g, if_pos (by omega)]; grind
   ·rw [if_neg g, if_neg (by omega)]; grind
theorem rowV_row {p : List Rat} (q : List Rat) {i : Nat} (h : i < p.length) (k : Nat) : rowV p q i q.length k = rowV p q (i + 1) 0 k := by
 unfold rowV
 rw [List.take_length, List.take_zero]
 have e : p.take (i + 1) = p.take i ++ [cf p i] := by
  rw [List.take_add_one, List.getElem?_eq_getElem h, cf_eq h]; rfl
 rw [e, mul_snoc (p.take i) (cf p i) q k, cf_add, List.length_take, show min i p.length = i by omega, cf_shift (i + 1)]
 simp [smul, Rat.add_zero]
theorem rowV_all (p q : List Rat) (k : Nat) : rowV p q p.length 0 k = cf (mulC p q) k := by
 unfold rowV
 rw [List.take_length, cf_shift, cf_smul, cf_take]
 simp [Rat.add_zero]
theorem ok_cf {p : List Rat} {K : Nat} (h : ∀ x ∈ p, okQ K x) (hK : 1 < K) (i : Nat) : okQ K (cf p i) := by
 by_cases hi : i < p.length
 ·rw [cf_eq hi]; exact h _ (List.getElem_mem hi)
 ·rw [cf_ge (by omega)]; exact okQ_zero hK
theorem ok_row0 {p q : List Rat} {K : Nat} (hp : ∀ x ∈ p, okQ K x) (hq : ∀ x ∈ q, okQ K x) (hK : 1 < K) : ∀ (i : Nat), i ≤ p.length → ∀ k, okQ (2 * K * i + K) (rowV p q i 0 k)
 | 0, _, k => by rw [rowV_zero]; exact okQ_zero (by omega)
 | i + 1, h, k => by
  rw [← rowV_row q (show i < p.length by omega) k]
  have ih := ok_row0 hp hq hK i (by omega) k
  unfold rowV at ih ⊢
  rw [List.take_zero] at ih
  have e0 : cf (shiftP i (smul (cf p i) [])) k = 0 := by rw [cf_shift]; simp [smul]
  rw [e0, Rat.add_zero] at ih
  rw [List.take_length, cf_shift]
  have h2 : okQ (2 * K) (if k < i then 0 else cf (smul (cf p i) q) (k - i)) := by
   split
   ·exact okQ_zero (by omega)
   ·rw [cf_smul, Nat.two_mul]; exact (ok_cf hp hK i).mul (ok_cf hq hK _)
  exact (ih.add h2).mono (by rw [Nat.mul_add, Nat.mul_one]; omega)
theorem ok_row {p q : List Rat} {K : Nat} (hp : ∀ x ∈ p, okQ K x) (hq : ∀ x ∈ q, okQ K x) (hK : 1 < K) {i : Nat} (h : i ≤ p.length) (j k : Nat) : okQ (2 * K * i + 3 * K) (rowV p q i j k) := by
 have ih := ok_row0 hp hq hK i h k
 unfold rowV at ih ⊢
 rw [List.take_zero] at ih
 have e0 : cf (shiftP i (smul (cf p i) [])) k = 0 := by rw [cf_shift]; simp [smul]
 rw [e0, Rat.add_zero] at ih
 rw [cf_shift]
 have h2 : okQ (2 * K) (if k < i then 0 else cf (smul (cf p i) (q.take j)) (k - i)) := by
  split
  ·exact okQ_zero (by omega)
  ·rw [cf_smul, Nat.two_mul, cf_take]
   refine (ok_cf hp hK i).mul ?_
   split
   ·exact ok_cf hq hK _
   ·exact okQ_zero hK
 exact (ih.add h2).mono (by omega)
def rowR (r d : List Rat) (k : Nat) (c : Rat) (i : Nat) : List Rat := (List.range r.length).map fun j => cf r j - (if k ≤ j ∧ j < k + i then c * cf d (j - k) else 0)
theorem rowR_len (r d : List Rat) (k : Nat) (c : Rat) (i : Nat) : (rowR r d k c i).length = r.length := by simp [rowR]
theorem rowR_getD {r d : List Rat} {k : Nat} {c : Rat} {i j : Nat} (h : j < r.length) : (rowR r d k c i).getD j 0 = cf r j - (if k ≤ j ∧ j < k + i then c * cf d (j - k) else 0) := by
 simp [rowR, List.getD_eq_getElem?_getD, h]
theorem rowR_zero (r d : List Rat) (k : Nat) (c : Rat) : rowR r d k c 0 = r := by
 refine List.ext_getElem (by simp [rowR]) fun j g1 g2 => ?_
 simp only [rowR, List.getElem_map, List.getElem_range]
 rw [if_neg (by omega), cf_eq g2, Rat.sub_eq_add_neg, Rat.neg_zero, Rat.add_zero]
theorem rowR_set {r d : List Rat} {k : Nat} {c : Rat} {i : Nat} (h : k + i < r.length) : (rowR r d k c i).set (k + i) ((rowR r d k c i).getD (k + i) 0 - c * d.getD i 0) = rowR r d k c (i + 1) := by
 rw [rowR_getD h]
 refine List.ext_getElem (by simp [rowR]) fun j g1 g2 => ?_
 simp only [rowR, List.getElem_set, List.getElem_map, List.getElem_range]
 split
 ·rename_i e
  subst e
  rw [if_neg (by omega), if_pos (by omega), show k + i - k = i by omega]
  show _ = cf r (k + i) - c * cf d i
  rw [Rat.sub_eq_add_neg (cf r (k + i)) 0, Rat.neg_zero, Rat.add_zero]
  rfl
 ·rename_i e
  by_cases g : k ≤ j ∧ j < k + i
  ·rw [if_pos g, if_pos (by omega)]
  ·rw [if_neg g, if_neg (by omega)]
theorem rowR_all {r d : List Rat} (h : d.length ≤ r.length) : trimP (rowR r d (remK r d) (remC r d) d.length) = stepRP r d := by
 have e : trimP (stepRP r d) = stepRP r d := by unfold stepRP; exact trim_trim _
 rw [← e]
 refine trim_ext fun i => ?_
 rw [cf_stepRP]
 by_cases hi : i < r.length
 ·show (rowR r d (remK r d) (remC r d) d.length).getD i 0 = _
  rw [rowR_getD hi]
  by_cases g : i < remK r d
  ·rw [if_neg (by omega), if_pos g]
  ·rw [if_neg g, if_pos (by unfold remK at *; omega)]
 ·rw [cf_ge (by rw [rowR_len]; omega), cf_ge (by omega)]
  split
  ·grind
  ·rename_i g
   rw [cf_ge (p := d) (by unfold remK at *; omega)]
   grind
theorem rowR_ok {r d : List Rat} {k : Nat} {c : Rat} {K : Nat} (hr : ∀ x ∈ r, okQ K x) (hd : ∀ x ∈ d, okQ K x) (hc : okQ (2 * K) c) (hK : 1 < K) (i : Nat) : ∀ x ∈ rowR r d k c i, okQ (4 * K) x := fun x hx => by
 obtain ⟨j, _, rfl⟩ := List.mem_map.1 hx
 have h2 : okQ (3 * K) (if k ≤ j ∧ j < k + i then c * cf d (j - k) else 0) := by
  split
  ·exact (hc.mul (ok_cf hd hK _)).mono (by omega)
  ·exact okQ_zero (by omega)
 exact ((ok_cf hr hK j).sub h2).mono (by omega)
def updQ (v : Nat → Rat) (k : Nat) (c : Rat) (j : Nat) : Rat := if j = k then c else v j
theorem updQ_step {v : Nat → Rat} {m : Nat} {p r d : List Rat} (h0 : v (remK r d) = 0) (hm : remK r d < m) (h : Eqv (addC (mulC ((List.range m).map v) d) r) p) : Eqv (addC (mulC ((List.range m).map (updQ v (remK r d) (remC r d))) d) (stepRP r d)) p := by
 have e : Eqv ((List.range m).map (updQ v (remK r d) (remC r d))) (stepQP ((List.range m).map v) r d) := fun i => by
  unfold stepQP
  rw [cf_trim, cf_add, cf_shift]
  have cr : ∀ (g : Nat → Rat) i, cf ((List.range m).map g) i = if i < m then g i else 0 := fun g i => by
   unfold cf
   split
   ·rename_i h; simp [List.getD_eq_getElem?_getD, h]
   ·rename_i h; simp [List.getD_eq_getElem?_getD, h]
  rw [cr, cr]
  unfold updQ
  by_cases e : i = remK r d
  ·subst e
   rw [if_pos hm, if_pos rfl, if_pos hm, h0, if_neg (by omega), Nat.sub_self, cf_zero, Rat.zero_add]
  ·have e2 : (if i < remK r d then (0 : Rat) else cf [remC r d] (i - remK r d)) = 0 := by
    split
    ·rfl
    ·exact cf_ge (by show 1 ≤ i - remK r d; omega)
   rw [e2, Rat.add_zero, if_neg e]
 exact ((add_eqv (mul_eqv_l d e) (Eqv.refl _)).trans (stepRP_mul _ r d)).trans h
theorem divP_end {v : Nat → Rat} {m : Nat} {p r d : List Rat} (hp : Tr p) (hd : Tr d) (d0 : d ≠ []) (hr : Tr r) (hl : r.length < d.length) (h : Eqv (addC (mulC ((List.range m).map v) d) r) p) : divP p d = (trimP ((List.range m).map v), r) :=
 divP_unique hp hd d0 (tr_trim _) hr hl ((add_eqv (mul_eqv_l d (trim_eqv _)) (Eqv.refl _)).trans h)
theorem divP_start {p d : List Rat} {m : Nat} : Eqv (addC (mulC ((List.range m).map (fun _ => (0 : Rat))) d) p) p := fun i => by
 have e : ∀ i, cf ((List.range m).map (fun _ => (0 : Rat))) i = 0 := fun i => by
  unfold cf
  by_cases h : i < m <;> simp [List.getD_eq_getElem?_getD, h]
 have e2 : cf (mulC ((List.range m).map (fun _ => (0 : Rat))) d) i = 0 := by
  rw [mul_comm_eqv _ _ i]; exact mul_zero_r d _ e i
 rw [cf_add, e2, Rat.zero_add]
theorem divL_q {d : List Rat} {l : Nat} (hd : Tr d) (d0 : d ≠ []) (L : HtP l d) {N B : Nat} (hB : 1 < B) : ∀ (n h : Nat) (q r : List Rat), Tr r → HtP h r → (∀ i, okQ B (cf q i)) → (∀ i, i + d.length ≤ r.length → cf q i = 0) → (∀ i, N ≤ i → cf q i = 0) → r.length + 1 - d.length ≤ N → h + (r.length + 1 - d.length) * l + l ≤ B → (∀ i, okQ B (cf (divL n q r d).1 i)) ∧ ∀ i, N ≤ i → cf (divL n q r d).1 i = 0
 | 0, h, q, r, hr, H, a1, a2, a3, a4, a5 => ⟨a1, a3⟩
 | n + 1, h, q, r, hr, H, a1, a2, a3, a4, a5 => by
  unfold divL
  split
  ·exact ⟨a1, a3⟩
  ·rename_i hl
   have h1 := stepRP_len hr hd d0 (by omega)
   have dl := ne_len d0
   have hc := remC_ok H L (lead_ne hd d0)
   have e : ∀ i, cf (stepQP q r d) i = if i = remK r d then remC r d else cf q i := fun i => by
    unfold stepQP
    rw [cf_trim, cf_add, cf_shift]
    by_cases g : i = remK r d
    ·subst g
     rw [if_neg (by omega), Nat.sub_self, cf_zero, if_pos rfl, a2 _ (by unfold remK; omega), Rat.zero_add]
    ·rw [if_neg g]
     split
     ·rw [Rat.add_zero]
     ·rw [cf_ge (p := [remC r d]) (by show 1 ≤ i - remK r d; omega), Rat.add_zero]
   obtain ⟨m, hm⟩ : ∃ m, r.length + 1 - d.length = m + 1 := ⟨r.length - d.length, by omega⟩
   rw [hm, Nat.add_mul] at a5
   refine divL_q hd d0 L hB n (h + l) (stepQP q r d) (stepRP r d) (tr_trim _) (H.stepRP L (lead_ne hd d0)) (fun i => ?_) (fun i hi => ?_) (fun i hi => ?_) (by omega) ?_
   ·rw [e]
    split
    ·exact hc.mono (by omega)
    ·exact a1 i
   ·rw [e, if_neg (by unfold remK; omega)]
    exact a2 i (by omega)
   ·rw [e, if_neg (by unfold remK; omega)]
    exact a3 i hi
   ·have h3 : ((stepRP r d).length + 1 - d.length) * l ≤ m * l := Nat.mul_le_mul_right _ (by omega)
    omega
theorem divP_q {p d : List Rat} {h l : Nat} (hp : Tr p) (hd : Tr d) (d0 : d ≠ []) (H : HtP h p) (L : HtP l d) (h1 : 1 < h) : (∀ i, okQ (h + (p.length + 1 - d.length) * l + l) (cf (divP p d).1 i)) ∧ (divP p d).1.length ≤ p.length + 1 - d.length := by
 obtain ⟨g1, g2⟩ := divL_q hd d0 L (N := p.length + 1 - d.length) (B := h + (p.length + 1 - d.length) * l + l) (by omega) (p.length + 1) h [] p hp H (fun i => okQ_zero (by omega)) (fun _ _ => rfl) (fun _ _ => rfl) (Nat.le_refl _) (Nat.le_refl _)
 exact ⟨g1, (divP_spec hp hd d0).1.len_lt fun i hi => g2 i hi⟩
def dvdP (g p : List Rat) : Prop := ∃ u, Eqv p (mulC u g)
theorem dvd_eqv {g p q : List Rat} (h : dvdP g p) (e : Eqv q p) : dvdP g q := by
 obtain ⟨u, hu⟩ := h
 exact ⟨u, e.trans hu⟩
theorem dvd_add {g p q : List Rat} (h : dvdP g p) (k : dvdP g q) : dvdP g (addC p q) := by
 obtain ⟨u, hu⟩ := h
 obtain ⟨v, hv⟩ := k
 exact ⟨addC u v, (add_eqv hu hv).trans (mul_add_l u v g).symm⟩
theorem dvd_mul {g p : List Rat} (u : List Rat) (h : dvdP g p) : dvdP g (mulC u p) := by
 obtain ⟨v, hv⟩ := h
 exact ⟨mulC u v, (mul_eqv_r u hv).trans (mul_assoc_eqv u v g).symm⟩
theorem dvd_nil (g : List Rat) : dvdP g [] := ⟨[], fun i => rfl⟩
theorem inv_lead {p : List Rat} (h : Tr p) (h0 : p ≠ []) : 1 / lead p ≠ 0 ∧ lead p * (1 / lead p) = 1 := by
 have hl := lead_ne h h0
 have h2 : lead p * (1 / lead p) = 1 := by rw [Rat.div_def, Rat.one_mul]; exact Rat.mul_inv_cancel _ hl
 exact ⟨fun e => by rw [e, Rat.mul_zero] at h2; exact absurd h2 (by decide), h2⟩
theorem dvd_monic (p : List Rat) (hT : Tr p) : dvdP (monicP p) p := by
 by_cases h0 : p = []
 ·subst h0; exact dvd_nil _
 ·refine ⟨[lead p], ?_⟩
  refine Eqv.symm ((mul_const (lead p) (monicP p)).trans ?_)
  unfold monicP
  rw [smul_smul, (inv_lead hT h0).2, smul_one]
  exact Eqv.refl _
theorem gcdL_dvd : ∀ (n : Nat) {p q : List Rat}, Tr p → Tr q → q.length ≤ n → dvdP (gcdL n p q) p ∧ dvdP (gcdL n p q) q
 | 0, p, q, hp, hq, h => by
  have : q = [] := List.length_eq_zero_iff.1 (by omega)
  subst this
  exact ⟨dvd_monic p hp, dvd_nil _⟩
 | n + 1, p, q, hp, hq, h => by
  rw [gcdL]
  split
  ·rename_i e
   subst e
   exact ⟨dvd_monic p hp, dvd_nil _⟩
  ·rename_i q0
   have hl := rem_len hp hq q0
   obtain ⟨a, b⟩ := gcdL_dvd n hq (tr_rem hp hq q0) (by omega)
   obtain ⟨s1, s2, s3, s4⟩ := divP_spec hp hq q0
   exact ⟨dvd_eqv (dvd_add (dvd_mul (divP p q).1 a) b) s4.symm, a⟩
theorem gcdP_dvd {p q : List Rat} (hp : Tr p) (hq : Tr q) : dvdP (gcdP p q) p ∧ dvdP (gcdP p q) q := gcdL_dvd _ hp hq (Nat.le_refl _)
theorem rem_of_dvd {g p : List Rat} (hp : Tr p) (hg : Tr g) (g0 : g ≠ []) (h : dvdP g p) : remP p g = [] := by
 obtain ⟨u, hu⟩ := h
 have hl := ne_len g0
 have e := divP_unique (q := trimP u) (r := []) hp hg g0 (tr_trim u) Tr.nil (by simpa using hl) (fun i => by
  rw [cf_add, mul_eqv_l g (trim_eqv u) i, ← hu i, cf_nil, Rat.add_zero])
 unfold remP
 rw [e]
def mulT (p q : List Rat) : List Rat := trimP (mulC p q)
theorem mulT_nil (q : List Rat) : mulT [] q = [] := rfl
theorem tr_mulT (p q : List Rat) : Tr (mulT p q) := tr_trim _
theorem mulT_len {p m : List Rat} (hp : Tr p) (hm : Tr m) (p0 : p ≠ []) (m0 : m ≠ []) : (mulT p m).length = p.length + m.length - 1 ∧ lead (mulT p m) = lead p * lead m := by
 obtain ⟨h1, h2⟩ := mul_len hp hm (ne_len p0) (ne_len m0)
 refine ⟨h1, ?_⟩
 have a := ne_len p0
 have b := ne_len m0
 unfold lead mulT
 rw [h1, cf_trim, show p.length + m.length - 1 - 1 = p.length + m.length - 2 by omega]
 exact h2
theorem mulT_ne {p m : List Rat} (hp : Tr p) (hm : Tr m) (p0 : p ≠ []) (m0 : m ≠ []) : mulT p m ≠ [] := fun h => by
 have := (mulT_len hp hm p0 m0).1
 rw [h] at this
 have a := ne_len p0
 have b := ne_len m0
 simp at this
 omega
theorem mulT_monic {p m : List Rat} (hp : Tr p) (hm : Tr m) (m1 : lead m = 1) : monicP (mulT p m) = mulT (monicP p) m := by
 by_cases p0 : p = []
 ·subst p0; rfl
 ·have m0 : m ≠ [] := fun e => by rw [e] at m1; exact absurd m1 (by decide)
  have hl := (mulT_len hp hm p0 m0).2
  rw [m1, Rat.mul_one] at hl
  refine (tr_monic (tr_mulT p m)).ext (tr_mulT _ _) ?_
  unfold monicP
  rw [hl]
  exact ((smul_eqv (trim_eqv _)).trans (mul_smul_l _ p m).symm).trans (trim_eqv _).symm
theorem rem_mulT {p q m : List Rat} (hp : Tr p) (hq : Tr q) (q0 : q ≠ []) (hm : Tr m) (m0 : m ≠ []) : remP (mulT p m) (mulT q m) = mulT (remP p q) m := by
 obtain ⟨s1, s2, s3, s4⟩ := divP_spec hp hq q0
 have lq := (mulT_len hq hm q0 m0).1
 have hq1 := ne_len q0
 have hm1 := ne_len m0
 have hlt : (mulT (remP p q) m).length < (mulT q m).length := by
  by_cases r0 : remP p q = []
  ·rw [r0, mulT_nil, lq]; show 0 < _; omega
  ·have := (mulT_len s2 hm r0 m0).1
   have s3' : (remP p q).length < q.length := s3
   have r1 := ne_len r0
   rw [lq]
   show (mulT (remP p q) m).length < _
   rw [show (mulT (remP p q) m).length = (remP p q).length + m.length - 1 from this]
   omega
 have e := divP_unique (p := mulT p m) (d := mulT q m) (q := (divP p q).1) (r := mulT (remP p q) m) (tr_mulT p m) (tr_mulT q m) (mulT_ne hq hm q0 m0) s1 (tr_mulT _ _) hlt (by
  have a1 : Eqv (mulC (divP p q).1 (mulT q m)) (mulC (mulC (divP p q).1 q) m) := (mul_eqv_r _ (trim_eqv _)).trans (mul_assoc_eqv _ q m).symm
  have a2 : Eqv (addC (mulC (divP p q).1 (mulT q m)) (mulT (remP p q) m)) (mulC (addC (mulC (divP p q).1 q) (remP p q)) m) := (add_eqv a1 (trim_eqv _)).trans (mul_add_l _ _ m).symm
  exact (a2.trans (mul_eqv_l m s4)).trans (trim_eqv _).symm)
 unfold remP at e ⊢
 rw [e]
theorem gcdL_mulT {m : List Rat} (hm : Tr m) (m1 : lead m = 1) : ∀ (n : Nat) {p q : List Rat}, Tr p → Tr q → gcdL n (mulT p m) (mulT q m) = mulT (gcdL n p q) m
 | 0, p, q, hp, hq => mulT_monic hp hm m1
 | n + 1, p, q, hp, hq => by
  have m0 : m ≠ [] := fun e => by rw [e] at m1; exact absurd m1 (by decide)
  rw [gcdL, gcdL]
  by_cases q0 : q = []
  ·subst q0
   rw [if_pos rfl, if_pos (mulT_nil m)]
   exact mulT_monic hp hm m1
  ·rw [if_neg q0, if_neg (mulT_ne hq hm q0 m0), rem_mulT hp hq q0 hm m0]
   exact gcdL_mulT hm m1 n hq (tr_rem hp hq q0)
theorem gcdP_mulT {p q m : List Rat} (hp : Tr p) (hq : Tr q) (hm : Tr m) (m1 : lead m = 1) : gcdP (mulT p m) (mulT q m) = mulT (gcdP p q) m := by
 have m0 : m ≠ [] := fun e => by rw [e] at m1; exact absurd m1 (by decide)
 unfold gcdP
 rw [gcdL_mulT hm m1 _ hp hq]
 by_cases q0 : q = []
 ·subst q0; rfl
 ·have := (mulT_len hq hm q0 m0).1
  have hm1 := ne_len m0
  rw [gcdL_fuel (mulT q m).length q.length hp hq (by omega) (Nat.le_refl _)]
theorem gcdP_tr {p q : List Rat} (hp : Tr p) (hq : Tr q) : Tr (gcdP p q) ∧ ((p ≠ [] ∨ q ≠ []) → gcdP p q ≠ [] ∧ lead (gcdP p q) = 1) := by
 have key : ∀ (n : Nat) {p q : List Rat}, Tr p → Tr q → q.length ≤ n → Tr (gcdL n p q) ∧ ((p ≠ [] ∨ q ≠ []) → gcdL n p q ≠ [] ∧ lead (gcdL n p q) = 1) := by
  intro n
  induction n with
  | zero =>
   intro p q hp hq h
   have : q = [] := List.length_eq_zero_iff.1 (by omega)
   subst this
   refine ⟨tr_monic hp, fun h => ?_⟩
   have p0 : p ≠ [] := h.resolve_right (fun h => h rfl)
   exact ⟨fun e => p0 (smul_eq_nil.1 e), lead_monic hp p0⟩
  | succ n ih =>
   intro p q hp hq h
   rw [gcdL]
   split
   ·rename_i e
    subst e
    refine ⟨tr_monic hp, fun h => ?_⟩
    have p0 : p ≠ [] := h.resolve_right (fun h => h rfl)
    exact ⟨fun e => p0 (smul_eq_nil.1 e), lead_monic hp p0⟩
   ·rename_i q0
    have hl := rem_len hp hq q0
    obtain ⟨a, b⟩ := ih hq (tr_rem hp hq q0) (by omega)
    exact ⟨a, fun _ => b (.inl q0)⟩
 exact key _ hp hq (Nat.le_refl _)
theorem mul_num {k : Nat} {q : List Rat} {d : Int} (d0 : d ≠ 0) (Q : Nat → Int) (hq : ∀ i, ln (Q i).natAbs < k ∧ cf q i = Rat.divInt (Q i) d) {c : Int} (c0 : c ≠ 0) {h : Nat} : ∀ (p : List Rat) (P : Nat → Int), (∀ i, ln (P i).natAbs < h ∧ cf p i = Rat.divInt (P i) c) → ∃ R : Nat → Int, ∀ i, ln (R i).natAbs < h + k + p.length ∧ cf (mulC p q) i = Rat.divInt (R i) (c * d)
 | [], P, hp => ⟨fun _ => 0, fun i => ⟨by rw [show (0 : Int).natAbs = 0 from rfl, ln_zero]; have := (hq 0).1; have := (hp 0).1; simp; omega, by rw [show cf (mulC [] q) i = 0 from rfl]; exact (Rat.zero_divInt _).symm⟩⟩
 | a :: p, P, hp => by
  obtain ⟨R, hR⟩ := mul_num d0 Q hq c0 p (fun i => P (i + 1)) (fun i => hp (i + 1))
  have ha := hp 0
  rw [cf_zero] at ha
  have m0 : ∀ i, ln (P 0 * Q i).natAbs < h + k + p.length := fun i => by
   have := ln_mulZ ha.1 (hq i).1; omega
  refine ⟨fun i => match i with | 0 => P 0 * Q 0 | i + 1 => P 0 * Q (i + 1) + R i, fun i => ?_⟩
  cases i with
  | zero =>
   refine ⟨by have := m0 0; simp only [List.length_cons]; omega, ?_⟩
   rw [cf_mul0, ha.2, (hq 0).2, Rat.divInt_mul_divInt]
  | succ i =>
   refine ⟨?_, ?_⟩
   ·have := ln_addZ (m0 (i + 1)) (hR i).1
    simp only [List.length_cons]; omega
   ·rw [cf_mulS, (hR i).2, ha.2, (hq (i + 1)).2, Rat.divInt_mul_divInt, Rat.divInt_add_divInt _ _ (Int.mul_ne_zero c0 d0) (Int.mul_ne_zero c0 d0)]
    rw [← Int.add_mul, Rat.divInt_mul_right (Int.mul_ne_zero c0 d0)]
theorem HtP.mul {h k : Nat} {p q : List Rat} (H : HtP h p) (K : HtP k q) : HtP (h + k + p.length) (mulC p q) := by
 obtain ⟨c, P, c0, hc, hp⟩ := H
 obtain ⟨d, Q, d0, hd, hq⟩ := K
 obtain ⟨R, hR⟩ := mul_num d0 Q hq c0 p P hp
 refine ⟨c * d, R, Int.mul_ne_zero c0 d0, ?_, hR⟩
 have := ln_mulZ hc hd
 omega
theorem JG.gcd : ∀ (n : Nat) {p q : List Rat}, JG p q → q.length ≤ n → ∃ M, HtP (M + 1) (gcdP p q) ∧ (M + 1) * 3 ^ (gcdP p q).length ≤ Bud := by
 intro n
 induction n with
 | zero =>
  intro p q h hl
  have : q = [] := List.length_eq_zero_iff.1 (by omega)
  subst this
  obtain ⟨M, h1, h2, h3⟩ := h.fit
  rw [gcdP_nil]
  by_cases p0 : p = []
  ·subst p0
   exact ⟨1, HtP.nil, by decide⟩
  ·have := ne_len p0
   rw [if_pos (by simpa using this)] at h3
   exact ⟨M, h1.monic, by rw [show (monicP p).length = p.length from len_smul _ _]; exact h3⟩
 | succ n ih =>
  intro p q h hl
  by_cases q0 : q = []
  ·subst q0; exact ih h (by simp)
  ·obtain ⟨M, _, _, _, hs⟩ := h.step q0
   have e := gcdP_step h.tp h.tq q0 (a := 1 / lead q) (b := 1) (inv_lead h.tq q0).1 (by decide)
   rw [smul_one] at e
   rw [show gcdP p q = gcdP (monicP q) (remP p q) from e]
   exact ih hs (by have := rem_len h.tp h.tq q0; omega)
theorem ht_one {g : List Rat} (hl : g.length = 1) (h1 : lead g = 1) : HtP 3 g := by
 match g, hl with
 | [a], _ =>
  have : a = 1 := h1
  subst this
  exact ⟨1, fun i => match i with | 0 => 1 | _ + 1 => 0, by decide, by show ln 1 < 3; rw [ln_one]; decide, fun i => by
   cases i with
   | zero => exact ⟨by show ln 1 < 3; rw [ln_one]; decide, by decide +kernel⟩
   | succ i => exact ⟨by show ln 0 < 3; rw [ln_zero]; decide, (Rat.zero_divInt 1).symm⟩⟩
def HtQ (h l : Nat) (r q : List Rat) : Prop := ∃ (c : Int) (P Q : Nat → Int), c ≠ 0 ∧ ln c.natAbs < h ∧ (∀ i, ln (P i).natAbs < h ∧ cf r i = Rat.divInt (P i) c) ∧ ∀ i, ln (Q i).natAbs < h + l ∧ cf q i = Rat.divInt (Q i) c
theorem HtQ.mono {h k l : Nat} {r q : List Rat} (H : HtQ h l r q) (hk : h ≤ k) : HtQ k l r q := by
 obtain ⟨c, P, Q, c0, hc, hp, hq⟩ := H
 exact ⟨c, P, Q, c0, by omega, fun i => ⟨by have := (hp i).1; omega, (hp i).2⟩, fun i => ⟨by have := (hq i).1; omega, (hq i).2⟩⟩
theorem HtQ.out {h l : Nat} {r q : List Rat} (H : HtQ h l r q) : HtP (h + l) q := by
 obtain ⟨c, P, Q, c0, hc, hp, hq⟩ := H
 exact ⟨c, Q, c0, by omega, hq⟩
theorem HtQ.start {h l : Nat} {r : List Rat} (H : HtP h r) : HtQ h l r [] := by
 obtain ⟨c, P, c0, hc, hp⟩ := H
 exact ⟨c, P, fun _ => 0, c0, hc, hp, fun i => ⟨by show ln 0 < h + l; rw [ln_zero]; omega, (Rat.zero_divInt c).symm⟩⟩
theorem HtQ.step {h l : Nat} {r q d : List Rat} (H : HtQ h l r q) (L : HtP l d) (hd : lead d ≠ 0) (e : ∀ i, cf (stepQP q r d) i = if i = remK r d then remC r d else cf q i) : HtQ (h + l) l (stepRP r d) (stepQP q r d) := by
 obtain ⟨c, R, Q, c0, hc, hr, hq⟩ := H
 obtain ⟨f, E, e0, he, hE⟩ := L
 have e1 := (hE (d.length - 1)).2
 have e2 := (hr (r.length - 1)).2
 have hne := divInt_ne (a := E (d.length - 1)) (c := f) (by rw [← e1]; exact hd)
 have l0 := (hE (d.length - 1)).1
 have r0' := (hr (r.length - 1)).1
 refine ⟨c * E (d.length - 1), fun i => R i * E (d.length - 1) - (if i < remK r d then 0 else R (r.length - 1) * E (i - remK r d)), fun i => if i = remK r d then R (r.length - 1) * f else Q i * E (d.length - 1), Int.mul_ne_zero c0 hne, ?_, fun i => ⟨?_, ?_⟩, fun i => ?_⟩
 ·have := ln_mulZ hc l0; omega
 ·have h1 := ln_mulZ (hr i).1 l0
  have h2 : ln (if i < remK r d then 0 else R (r.length - 1) * E (i - remK r d)).natAbs < h + l - 1 := by
   split
   ·show ln 0 < _; rw [ln_zero]; omega
   ·exact ln_mulZ r0' (hE (i - remK r d)).1
  have := ln_subZ h1 h2
  dsimp only
  omega
 ·rw [cf_stepRP, (hr i).2]
  dsimp only
  split
  ·rw [Int.sub_zero, divInt_mulR hne]; grind
  ·have hq : remC r d * cf d (i - remK r d) = Rat.divInt (R (r.length - 1) * E (i - remK r d)) (c * E (d.length - 1)) := by
    unfold remC lead
    rw [e1, e2, (hE (i - remK r d)).2, divInt_div2 c0 hne e0, Rat.divInt_mul_divInt]
    rw [show R (r.length - 1) * f * E (i - remK r d) = R (r.length - 1) * E (i - remK r d) * f by rw [Int.mul_assoc, Int.mul_assoc, Int.mul_comm f], divInt_mulR e0]
   rw [hq, ← divInt_mulR (a := R i) (c := c) hne, Rat.sub_eq_add_neg, Rat.neg_divInt, Rat.divInt_add_divInt _ _ (Int.mul_ne_zero c0 hne) (Int.mul_ne_zero c0 hne), ← Int.add_mul, divInt_mulR (Int.mul_ne_zero c0 hne), ← Int.sub_eq_add_neg]
 ·rw [e]
  dsimp only
  split
  ·refine ⟨by have := ln_mulZ r0' he; omega, ?_⟩
   unfold remC lead
   rw [e1, e2, divInt_div2 c0 hne e0]
  ·refine ⟨by have := ln_mulZ (hq i).1 l0; omega, ?_⟩
   rw [(hq i).2, divInt_mulR hne]
theorem stepQP_cf {q r d : List Rat} (dl : d.length ≤ r.length) (a2 : ∀ i, i + d.length ≤ r.length → cf q i = 0) (i : Nat) : cf (stepQP q r d) i = if i = remK r d then remC r d else cf q i := by
 unfold stepQP
 rw [cf_trim, cf_add, cf_shift]
 by_cases g : i = remK r d
 ·subst g
  rw [if_neg (by omega), Nat.sub_self, cf_zero, if_pos rfl, a2 _ (by unfold remK; omega), Rat.zero_add]
 ·rw [if_neg g]
  split
  ·rw [Rat.add_zero]
  ·rw [cf_ge (p := [remC r d]) (by show 1 ≤ i - remK r d; omega), Rat.add_zero]
theorem divL_ht2 {d : List Rat} {l : Nat} (hd : Tr d) (d0 : d ≠ []) (L : HtP l d) : ∀ (n h : Nat) (q r : List Rat), Tr r → HtQ h l r q → (∀ i, i + d.length ≤ r.length → cf q i = 0) → HtQ (h + (r.length + 1 - d.length) * l) l (divL n q r d).2 (divL n q r d).1
 | 0, h, q, r, hr, H, a2 => H.mono (by omega)
 | n + 1, h, q, r, hr, H, a2 => by
  unfold divL
  split
  ·exact H.mono (by omega)
  ·rename_i hl
   have h1 := stepRP_len hr hd d0 (by omega)
   have e := stepQP_cf (by omega) a2
   have h2 := divL_ht2 hd d0 L n (h + l) (stepQP q r d) (stepRP r d) (tr_trim _) (H.step L (lead_ne hd d0) e) (fun i hi => by
    rw [e, if_neg (by unfold remK; omega)]
    exact a2 i (by omega))
   refine h2.mono ?_
   obtain ⟨m, hm⟩ : ∃ m, r.length + 1 - d.length = m + 1 := ⟨r.length - d.length, by omega⟩
   have h3 : ((stepRP r d).length + 1 - d.length) * l ≤ m * l := Nat.mul_le_mul_right _ (by omega)
   rw [hm, Nat.add_mul]
   omega
theorem divP_ht {p d : List Rat} {h l : Nat} (hp : Tr p) (hd : Tr d) (d0 : d ≠ []) (H : HtP h p) (L : HtP l d) : HtP (h + (p.length + 1 - d.length) * l + l) (divP p d).1 := (divL_ht2 hd d0 L (p.length + 1) h [] p hp (HtQ.start H) (fun _ _ => rfl)).out
theorem gcdB_step {p q : List Rat} {M B : Nat} (tp : Tr p) (tq : Tr q) (h1 : HtP M p) (h2 : HtP M q) (h3 : (M + 1) * 3 ^ (if q.length < p.length then p.length else q.length + 1) ≤ B) (q0 : q ≠ []) : ∃ M', HtP M' (monicP q) ∧ HtP M' (remP p q) ∧ (M' + 1) * 3 ^ q.length ≤ B := by
 have hr := remP_ht tp tq q0 h1 h2
 have hl := rem_len tp tq q0
 have hq := ne_len q0
 have hm := h2.monic
 obtain ⟨A, hA⟩ : ∃ A, (p.length + 1 - q.length) * M = A := ⟨_, rfl⟩
 refine ⟨M + A + 1, hm.mono (by omega), (hA ▸ hr).mono (by omega), ?_⟩
 by_cases c : q.length < p.length
 ·rw [if_pos c] at h3
  obtain ⟨e, he⟩ : ∃ e, p.length - q.length = e := ⟨_, rfl⟩
  have p3 := pow3_ge e (by omega)
  have e4 : 3 ^ p.length = 3 ^ e * 3 ^ q.length := by rw [← Nat.pow_add]; congr 1; omega
  rw [e4, ← Nat.mul_assoc] at h3
  refine Nat.le_trans (Nat.mul_le_mul_right _ ?_) h3
  rw [show p.length + 1 - q.length = e + 1 by omega, Nat.add_mul, Nat.one_mul] at hA
  have := Nat.mul_le_mul_left (M + 1) p3
  have e5 : (M + 1) * (e + 2) = e * M + 2 * M + (e + 2) := by rw [Nat.add_mul, Nat.mul_add, Nat.mul_comm M e]; omega
  omega
 ·rw [if_neg c, Nat.pow_succ, Nat.mul_comm (3 ^ q.length) 3, ← Nat.mul_assoc] at h3
  refine Nat.le_trans (Nat.mul_le_mul_right _ ?_) h3
  have : A ≤ M := by
   rw [← hA]
   rcases Nat.lt_or_ge (p.length + 1 - q.length) 1 with g | g
   ·rw [show p.length + 1 - q.length = 0 by omega]; omega
   ·rw [show p.length + 1 - q.length = 1 by omega]; omega
  omega
theorem gcdB {B : Nat} (hB : 6 ≤ B) : ∀ (n : Nat) {p q : List Rat} {M : Nat}, Tr p → Tr q → HtP M p → HtP M q → (M + 1) * 3 ^ (if q.length < p.length then p.length else q.length + 1) ≤ B → q.length ≤ n → ∃ M', HtP (M' + 1) (gcdP p q) ∧ (M' + 1) * 3 ^ (gcdP p q).length ≤ B := by
 intro n
 induction n with
 | zero =>
  intro p q M tp tq h1 h2 h3 hl
  have : q = [] := List.length_eq_zero_iff.1 (by omega)
  subst this
  rw [gcdP_nil]
  by_cases p0 : p = []
  ·subst p0
   exact ⟨1, HtP.nil, by show 2 * 3 ^ 0 ≤ B; omega⟩
  ·have := ne_len p0
   rw [if_pos (by simpa using this)] at h3
   exact ⟨M, h1.monic, by rw [show (monicP p).length = p.length from len_smul _ _]; exact h3⟩
 | succ n ih =>
  intro p q M tp tq h1 h2 h3 hl
  by_cases q0 : q = []
  ·subst q0; exact ih tp tq h1 h2 h3 (by simp)
  ·obtain ⟨M', k1, k2, k3⟩ := gcdB_step tp tq h1 h2 h3 q0
   have e := gcdP_step tp tq q0 (a := 1 / lead q) (b := 1) (inv_lead tq q0).1 (by decide)
   rw [smul_one] at e
   rw [show gcdP p q = gcdP (monicP q) (remP p q) from e]
   have hml : (monicP q).length = q.length := len_smul _ _
   exact ih (tr_monic tq) (tr_rem tp tq q0) k1 k2 (by rw [hml, if_pos (rem_len tp tq q0)]; exact k3) (by have := rem_len tp tq q0; omega)
theorem gcd_len : ∀ (n : Nat) {p q : List Rat}, Tr p → Tr q → q.length ≤ n → (gcdP p q).length ≤ max p.length q.length := by
 intro n
 induction n with
 | zero =>
  intro p q tp tq hl
  have : q = [] := List.length_eq_zero_iff.1 (by omega)
  subst this
  rw [gcdP_nil, show (monicP p).length = p.length from len_smul _ _]
  omega
 | succ n ih =>
  intro p q tp tq hl
  by_cases q0 : q = []
  ·subst q0; exact ih tp tq (by simp)
  ·have e := gcdP_step tp tq q0 (a := 1 / lead q) (b := 1) (inv_lead tq q0).1 (by decide)
   rw [smul_one] at e
   rw [show gcdP p q = gcdP (monicP q) (remP p q) from e]
   have hr := rem_len tp tq q0
   have := ih (tr_monic tq) (tr_rem tp tq q0) (by omega)
   rw [show (monicP q).length = q.length from len_smul _ _] at this
   omega
theorem ev_cons (a : Rat) (p : List Rat) (x : Rat) : evalP (a :: p) x = a + x * evalP p x := by
 simp only [evalP]
 grind
def syn : List Rat → Rat → List Rat
 | [], _ => []
 | [_], _ => []
 | _ :: b :: t, r => evalP (b :: t) r :: syn (b :: t) r
theorem syn_eval : ∀ (p : List Rat) (r x : Rat), evalP p x = evalP p r + (x - r) * evalP (syn p r) x
 | [], r, x => by simp only [evalP, syn]; grind
 | [a], r, x => by simp only [evalP, syn]; grind
 | a :: b :: t, r, x => by
  have ih := syn_eval (b :: t) r x
  have e1 : ∀ y, evalP (a :: b :: t) y = a + y * evalP (b :: t) y := fun y => ev_cons _ _ _
  have e2 : evalP (syn (a :: b :: t) r) x = evalP (b :: t) r + x * evalP (syn (b :: t) r) x := ev_cons _ _ _
  rw [e1, e1, e2]
  grind
theorem syn_zero : ∀ (p : List Rat) (r : Rat), evalP p r = 0 → (∀ i, cf (syn p r) i = 0) → ∀ i, cf p i = 0
 | [], r, h, k, i => rfl
 | [a], r, h, k, i => by
  have : a = 0 := by simp only [evalP] at h; grind
  subst this
  cases i <;> rfl
 | a :: b :: t, r, h, k, i => by
  have k0 : evalP (b :: t) r = 0 := k 0
  have ih := syn_zero (b :: t) r k0 (fun j => k (j + 1))
  have e1 : evalP (a :: b :: t) r = a + r * evalP (b :: t) r := ev_cons _ _ _
  rw [e1, k0] at h
  cases i with
  | zero => show a = 0; grind
  | succ i => exact ih i
theorem syn_len : ∀ (p : List Rat) (r : Rat), (syn p r).length = p.length - 1
 | [], r => rfl
 | [a], r => rfl
 | a :: b :: t, r => by show (syn (b :: t) r).length + 1 = _; rw [syn_len]; rfl
theorem eval_all0 : ∀ (n : Nat) (p : List Rat) (m : Nat), p.length ≤ n → (∀ k : Nat, m ≤ k → evalP p (k : Rat) = 0) → ∀ i, cf p i = 0
 | 0, p, m, hl, h, i => cf_ge (by omega)
 | n + 1, p, m, hl, h, i => by
  refine syn_zero p (m : Rat) (h m (Nat.le_refl _)) ?_ i
  refine eval_all0 n _ (m + 1) (by rw [syn_len]; omega) fun k hk => ?_
  have := syn_eval p (m : Rat) (k : Rat)
  rw [h k (by omega), h m (Nat.le_refl _), Rat.zero_add] at this
  rcases Rat.mul_eq_zero.1 this.symm with e | e
  ·exfalso
   have e2 : (k : Rat) = (m : Rat) := by grind
   have e3 := Rat.natCast_inj.1 e2
   omega
  ·exact e
theorem eval_zero_all {p : List Rat} (h : ∀ x, evalP p x = 0) : ∀ i, cf p i = 0 := eval_all0 _ p 0 (Nat.le_refl _) fun k _ => h _
theorem eqv_of_eval {p q : List Rat} (h : ∀ x, evalP p x = evalP q x) : Eqv p q := fun i => by
 have := eval_zero_all (p := subC p q) (fun x => by rw [eval_sub, h x]; grind) i
 rw [cf_sub] at this
 grind
theorem cancel {a b c : List Rat} (ha : ∃ x, evalP a x ≠ 0) (h : ∀ x, evalP a x * evalP b x = evalP a x * evalP c x) : ∀ x, evalP b x = evalP c x := by
 have ta : trimP a ≠ [] := fun e => by
  obtain ⟨x, hx⟩ := ha
  rw [← eval_trim, e] at hx
  exact hx rfl
 by_cases hb : trimP (subC b c) = []
 ·intro x
  have : evalP (subC b c) x = 0 := by rw [← eval_trim, hb]; rfl
  rw [eval_sub] at this
  grind
 ·exfalso
  refine mulT_ne (tr_trim a) (tr_trim _) ta hb ?_
  unfold mulT
  rw [trim_nil_iff]
  refine eval_zero_all fun x => ?_
  rw [eval_mul, eval_trim, eval_trim, eval_sub]
  have := h x
  grind
def dEv (p : List Rat) (x : Rat) : Rat := evalP (derC p) x
theorem dEv_nil (x : Rat) : dEv [] x = 0 := rfl
theorem dEv_ext {p q : List Rat} (h : Eqv p q) (x : Rat) : dEv p x = dEv q x := eval_ext x fun i => by rw [cf_der, cf_der, h]
theorem dEv_cons (a : Rat) (p : List Rat) (x : Rat) : dEv (a :: p) x = evalP p x + x * dEv p x := by
 have h : Eqv (derC (a :: p)) (addC p (0 :: derC p)) := fun i => by
  rw [cf_der, cf_add]
  show ((i + 1 : Nat) : Rat) * cf p i = _
  cases i with
  | zero => show ((0 + 1 : Nat) : Rat) * cf p 0 = cf p 0 + 0; rw [show ((0 + 1 : Nat) : Rat) = 1 from rfl]; grind
  | succ i =>
   show ((i + 1 + 1 : Nat) : Rat) * cf p (i + 1) = cf p (i + 1) + cf (derC p) i
   rw [cf_der, Rat.natCast_add (i + 1) 1]
   have : ((1 : Nat) : Rat) = 1 := rfl
   rw [this]
   grind
 show evalP (derC (a :: p)) x = _
 rw [eval_ext x h, eval_add]
 have : evalP (0 :: derC p) x = 0 + x * evalP (derC p) x := ev_cons _ _ _
 rw [this, Rat.zero_add]
 rfl
theorem dEv_add (p q : List Rat) (x : Rat) : dEv (addC p q) x = dEv p x + dEv q x := by
 have h : Eqv (derC (addC p q)) (addC (derC p) (derC q)) := fun i => by
  rw [cf_der, cf_add, cf_add, cf_der, cf_der]; grind
 show evalP (derC (addC p q)) x = _
 rw [eval_ext x h, eval_add]; rfl
theorem dEv_smul (c : Rat) (p : List Rat) (x : Rat) : dEv (smul c p) x = c * dEv p x := by
 have h : Eqv (derC (smul c p)) (smul c (derC p)) := fun i => by
  rw [cf_der, cf_smul, cf_smul, cf_der]; grind
 show evalP (derC (smul c p)) x = _
 rw [eval_ext x h, eval_smul]; rfl
theorem dEv_mul : ∀ (p q : List Rat) (x : Rat), dEv (mulC p q) x = dEv p x * evalP q x + evalP p x * dEv q x
 | [], q, x => by
  show (0 : Rat) = 0 * evalP q x + 0 * dEv q x
  grind
 | a :: p, q, x => by
  have ih := dEv_mul p q x
  have e1 : mulC (a :: p) q = addC (smul a q) (0 :: mulC p q) := rfl
  rw [e1, dEv_add, dEv_smul, dEv_cons, dEv_cons, ih, eval_mul]
  have : evalP (a :: p) x = a + x * evalP p x := ev_cons _ _ _
  rw [this]
  grind
theorem eval_derP (p : List Rat) (x : Rat) : evalP (derP p) x = dEv p x := eval_trim _ _
theorem bezout : ∀ (n : Nat) {p q : List Rat}, Tr p → Tr q → q.length ≤ n → ∃ u v : List Rat, ∀ x, evalP (gcdP p q) x = evalP u x * evalP p x + evalP v x * evalP q x := by
 intro n
 induction n with
 | zero =>
  intro p q tp tq hl
  have : q = [] := List.length_eq_zero_iff.1 (by omega)
  subst this
  refine ⟨[1 / lead p], [], fun x => ?_⟩
  rw [gcdP_nil]
  unfold monicP
  rw [eval_smul]
  simp only [evalP]
  grind
 | succ n ih =>
  intro p q tp tq hl
  by_cases q0 : q = []
  ·subst q0; exact ih tp tq (by simp)
  ·have e := gcdP_step tp tq q0 (a := 1 / lead q) (b := 1) (inv_lead tq q0).1 (by decide)
   rw [smul_one] at e
   have hr := rem_len tp tq q0
   obtain ⟨u, v, h⟩ := ih (p := monicP q) (q := remP p q) (tr_monic tq) (tr_rem tp tq q0) (by omega)
   rw [show gcdP p q = gcdP (monicP q) (remP p q) from e]
   refine ⟨v, subC (smul (1 / lead q) u) (mulC v (divP p q).1), fun x => ?_⟩
   have hs := eval_ext x (divP_spec tp tq q0).2.2.2
   rw [eval_add, eval_mul] at hs
   rw [h x, eval_sub, eval_smul, eval_mul]
   unfold monicP
   rw [eval_smul]
   show _ = _
   have hr2 : evalP (remP p q) x = evalP p x - evalP (divP p q).1 x * evalP q x := by
    show evalP (divP p q).2 x = _
    grind
   rw [hr2]
   grind
theorem dvd_eval {g p : List Rat} (h : dvdP g p) : ∃ u, ∀ x, evalP p x = evalP u x * evalP g x := by
 obtain ⟨u, hu⟩ := h
 exact ⟨u, fun x => by rw [eval_ext x hu, eval_mul]⟩
theorem ev_ne {p : List Rat} (h : Tr p) (h0 : p ≠ []) : ∃ x, evalP p x ≠ 0 := by
 refine Classical.byContradiction fun hn => ?_
 have : ∀ x, evalP p x = 0 := fun x => Classical.byContradiction fun e => hn ⟨x, e⟩
 exact h h0 (eval_zero_all this _)
theorem mul_ne2 {H h : List Rat} (H0 : ∃ x, evalP H x ≠ 0) (h0 : ∃ x, evalP h x ≠ 0) : ∃ x, evalP (mulC H h) x ≠ 0 := by
 refine Classical.byContradiction fun hn => ?_
 have e : ∀ x, evalP H x * evalP h x = evalP H x * evalP [] x := fun x => by
  have := Classical.byContradiction fun e => hn ⟨x, e⟩
  rw [eval_mul] at this
  rw [this]
  show (0 : Rat) = evalP H x * 0
  rw [Rat.mul_zero]
 obtain ⟨x, hx⟩ := h0
 exact hx (cancel H0 e x)
theorem sqf_desc {h A B Q R u v g : List Rat} (th : Tr h) (hl : 2 ≤ h.length) (h1 : ∀ x, evalP Q x = evalP h x * evalP A x) (h2 : ∀ x, dEv Q x = evalP h x * evalP B x) (h3 : ∀ x, dEv Q x = dEv h x * evalP A x + evalP h x * dEv A x) (h4 : ∀ x, evalP u x * evalP Q x + evalP v x * evalP R x = 1) (h5 : ∀ x, evalP Q x * dEv g x = evalP g x * (evalP R x - dEv Q x)) : ∀ (n : Nat) (s H C : List Rat), Tr s → s ≠ [] → s.length ≤ n → (∃ x, evalP H x ≠ 0) → (∀ x, evalP g x = evalP H x * evalP s x) → (∀ x, dEv g x = dEv H x * evalP s x + evalP H x * dEv s x) → (∀ x, dEv H x * evalP A x = evalP H x * evalP C x) → False
 | 0, s, H, C, ts, s0, sl, _, _, _, _ => s0 (List.length_eq_zero_iff.1 (by omega))
 | n + 1, s, H, C, ts, s0, sl, H0, e1, e2, e3 => by
  have k1 : ∀ x, evalP H x * (evalP (mulC h (addC (mulC C s) (addC (mulC (derC s) A) (mulC s B)))) x) = evalP H x * evalP (mulC s R) x := fun x => by
   rw [eval_mul, eval_add, eval_mul, eval_add, eval_mul, eval_mul, eval_mul]
   have a1 := h1 x
   have a2 := h2 x
   have a5 := h5 x
   have b1 := e1 x
   have b2 := e2 x
   have b3 := e3 x
   show _ * (_ * (_ + (dEv s x * _ + _))) = _
   rw [b2, b1, a1, a2] at a5
   have c1 : evalP h x * evalP A x * (dEv H x * evalP s x + evalP H x * dEv s x) = evalP h x * (dEv H x * evalP A x) * evalP s x + evalP h x * evalP A x * (evalP H x * dEv s x) := by grind
   rw [c1, b3] at a5
   grind
  have k2 := cancel H0 k1
  have k3 : ∀ x, evalP s x = evalP h x * evalP (addC (mulC s (mulC u A)) (mulC v (addC (mulC C s) (addC (mulC (derC s) A) (mulC s B))))) x := fun x => by
   have := k2 x
   rw [eval_mul, eval_mul] at this
   rw [eval_add, eval_mul, eval_mul, eval_mul]
   generalize evalP (addC (mulC C s) (addC (mulC (derC s) A) (mulC s B))) x = W at *
   have a4 := h4 x
   rw [h1 x] at a4
   have : evalP s x = evalP s x * (evalP u x * (evalP h x * evalP A x) + evalP v x * evalP R x) := by rw [a4]; grind
   grind
  generalize addC (mulC s (mulC u A)) (mulC v (addC (mulC C s) (addC (mulC (derC s) A) (mulC s B)))) = s1 at *
  have hh : h ≠ [] := fun e => by rw [e] at hl; simp at hl
  have s1n : trimP s1 ≠ [] := fun e => by
   obtain ⟨x, hx⟩ := ev_ne ts s0
   rw [k3 x, ← eval_trim s1, e] at hx
   exact hx (Rat.mul_zero _)
  have es : s = mulT h (trimP s1) := ts.ext (tr_mulT _ _) fun i => by
   unfold mulT
   rw [cf_trim]
   exact eqv_of_eval (fun x => by rw [eval_mul, eval_trim, k3 x]) i
  have ls := (mulT_len th (tr_trim s1) hh s1n).1
  rw [← es] at ls
  have e4 : ∀ x, evalP s x = evalP h x * evalP (trimP s1) x := fun x => by rw [eval_trim, k3 x]
  have e5 : ∀ x, dEv s x = dEv h x * evalP (trimP s1) x + evalP h x * dEv (trimP s1) x := fun x => by
   rw [← dEv_mul]
   exact dEv_ext (by rw [es]; exact trim_eqv _) x
  have hp : 0 < (trimP s1).length := ne_len s1n
  refine sqf_desc th hl h1 h2 h3 h4 h5 n (trimP s1) (mulC H h) (addC C (subC B (derC A))) (tr_trim _) s1n (by omega) (mul_ne2 H0 (ev_ne th hh)) (fun x => ?_) (fun x => ?_) (fun x => ?_)
  ·rw [e1 x, eval_mul, e4 x]; grind
  ·rw [e2 x, dEv_mul, eval_mul, e4 x, e5 x]; grind
  ·rw [dEv_mul, eval_mul, eval_add, eval_sub]
   show _ = _ * (_ + (_ - dEv A x))
   have a3 := h3 x
   have a2 := h2 x
   have b3 := e3 x
   have c1 : dEv h x * evalP A x = evalP h x * (evalP B x - dEv A x) := by grind
   have c2 : (dEv H x * evalP h x + evalP H x * dEv h x) * evalP A x = evalP h x * (dEv H x * evalP A x) + evalP H x * (dEv h x * evalP A x) := by grind
   rw [c2, c1, b3]
   grind
theorem sqf {p Q : List Rat} (tp : Tr p) (p0 : p ≠ []) (tQ : Tr Q) (hQ : ∀ x, evalP p x = evalP Q x * evalP (gcdP p (derP p)) x) : ∃ u v : List Rat, ∀ x, evalP u x * evalP Q x + evalP v x * evalP (derP Q) x = 1 := by
 have td : Tr (derP p) := tr_trim _
 have tE : Tr (derP Q) := tr_trim _
 obtain ⟨g1, g2⟩ := gcdP_tr tp td
 obtain ⟨g3, g4⟩ := g2 (.inl p0)
 obtain ⟨u0, v0, hb⟩ := bezout _ tp td (Nat.le_refl _)
 obtain ⟨R, hR⟩ := dvd_eval (gcdP_dvd tp td).2
 generalize hg : gcdP p (derP p) = g at *
 have gne := ev_ne g1 g3
 have h4 : ∀ x, evalP (addC (mulC u0 Q) (mulC v0 R)) x = evalP [1] x := cancel gne fun x => by
  have := hb x
  rw [hQ x, hR x] at this
  rw [eval_add, eval_mul, eval_mul, show evalP [1] x = 1 by simp only [evalP]; grind]
  grind
 have h4' : ∀ x, evalP u0 x * evalP Q x + evalP v0 x * evalP R x = 1 := fun x => by
  have := h4 x
  rw [eval_add, eval_mul, eval_mul, show evalP [1] x = 1 by simp only [evalP]; grind] at this
  exact this
 have hQ0 : Q ≠ [] := fun e => by
  obtain ⟨x, hx⟩ := ev_ne tp p0
  rw [hQ x, e] at hx
  exact hx (Rat.zero_mul _)
 obtain ⟨c1, c2⟩ := gcdP_tr tQ tE
 obtain ⟨c3, c4⟩ := c2 (.inl hQ0)
 obtain ⟨A, hA⟩ := dvd_eval (gcdP_dvd tQ tE).1
 obtain ⟨B, hB⟩ := dvd_eval (gcdP_dvd tQ tE).2
 obtain ⟨s, t, hst⟩ := bezout _ tQ tE (Nat.le_refl _)
 generalize gcdP Q (derP Q) = h at *
 have dp : ∀ x, dEv p x = dEv Q x * evalP g x + evalP Q x * dEv g x := fun x => by
  rw [← dEv_mul]
  exact dEv_ext (eqv_of_eval fun y => by rw [eval_mul]; exact hQ y) x
 by_cases hl : 2 ≤ h.length
 ·exfalso
  refine sqf_desc (Q := Q) (R := R) (u := u0) (v := v0) (g := g) (A := A) (B := B) c1 hl (fun x => by rw [hA x, Rat.mul_comm]) (fun x => by rw [← eval_derP, hB x, Rat.mul_comm]) (fun x => ?_) h4' (fun x => ?_) g.length g [1] [] g1 g3 (Nat.le_refl _) ⟨0, by decide +kernel⟩ (fun x => ?_) (fun x => ?_) (fun x => ?_)
  ·rw [Rat.add_comm, Rat.mul_comm (evalP h x), Rat.mul_comm (dEv h x), ← dEv_mul]
   exact dEv_ext (eqv_of_eval fun y => by rw [eval_mul]; exact hA y) x
  ·have a := hR x
   rw [eval_derP, dp x] at a
   grind
  ·rw [show evalP [1] x = 1 by simp only [evalP]; grind, Rat.one_mul]
  ·rw [show evalP [1] x = 1 by simp only [evalP]; grind, show dEv [1] x = 0 by rw [dEv_cons]; simp only [evalP, dEv_nil]; grind]; grind
  ·rw [show dEv [1] x = 0 by rw [dEv_cons]; simp only [evalP, dEv_nil]; grind]
   show (0 : Rat) * _ = _ * 0
   grind
 ·have l1 : h.length = 1 := by have := ne_len c3; omega
  refine ⟨s, t, fun x => ?_⟩
  rw [← hst x]
  match h, l1 with
  | [a], _ =>
   have : a = 1 := c4
   subst this
   simp only [evalP]; grind
def ab (x : Rat) : Rat := if x < 0 then -x else x
theorem ab_nonneg (x : Rat) : 0 ≤ ab x := by unfold ab; split <;> grind
theorem ab_neg (x : Rat) : ab (-x) = ab x := by unfold ab; split <;> split <;> grind
theorem ab_add (x y : Rat) : ab (x + y) ≤ ab x + ab y := by unfold ab; split <;> split <;> split <;> grind
theorem ab_sub (x y : Rat) : ab (x - y) ≤ ab x + ab y := by unfold ab; split <;> split <;> split <;> grind
theorem ab_pos {x : Rat} (h : x ≠ 0) : 0 < ab x := by unfold ab; split <;> grind
theorem ab_le {x m : Rat} (h1 : x ≤ m) (h2 : -m ≤ x) : ab x ≤ m := by unfold ab; split <;> grind
theorem ab_ge (x : Rat) : x ≤ ab x ∧ -(ab x) ≤ x := by unfold ab; split <;> grind
theorem ab_mul (x y : Rat) : ab (x * y) = ab x * ab y := by
 have h1 : ∀ a b : Rat, 0 ≤ a → 0 ≤ b → ab (a * b) = ab a * ab b := fun a b ha hb => by
  have := Rat.mul_nonneg ha hb
  unfold ab
  rw [if_neg (by grind), if_neg (by grind), if_neg (by grind)]
 by_cases hx : 0 ≤ x
 ·by_cases hy : 0 ≤ y
  ·exact h1 x y hx hy
  ·have := h1 x (-y) hx (by grind)
   rw [ab_neg y] at this
   rw [← this, show x * -y = -(x * y) by grind, ab_neg]
 ·by_cases hy : 0 ≤ y
  ·have := h1 (-x) y (by grind) hy
   rw [ab_neg x] at this
   rw [← this, show -x * y = -(x * y) by grind, ab_neg]
  ·have := h1 (-x) (-y) (by grind) (by grind)
   rw [ab_neg x, ab_neg y] at this
   rw [← this, show -x * -y = x * y by grind]
def sgQ (x : Rat) : Int := x.num.sign
theorem sg_pos {x : Rat} (h : 0 < x) : sgQ x = 1 := Int.sign_eq_one_of_pos (num_gt0.2 h)
theorem sg_neg {x : Rat} (h : x < 0) : sgQ x = -1 := Int.sign_eq_neg_one_of_neg (num_lt0.2 h)
theorem sg_cases (x : Rat) : (0 < x ∧ sgQ x = 1) ∨ (x = 0 ∧ sgQ x = 0) ∨ (x < 0 ∧ sgQ x = -1) := by
 by_cases h : 0 < x
 ·exact .inl ⟨h, sg_pos h⟩
 ·by_cases h2 : x < 0
  ·exact .inr (.inr ⟨h2, sg_neg h2⟩)
  ·have : x = 0 := by grind
   subst this; exact .inr (.inl ⟨rfl, rfl⟩)
theorem sg_near {x y : Rat} (h : ab (x - y) < ab x) : sgQ x = sgQ y ∧ sgQ x ≠ 0 := by
 rcases sg_cases x with ⟨h1, e1⟩ | ⟨h1, e1⟩ | ⟨h1, e1⟩
 ·have : 0 < y := by
   rw [show ab x = x from by unfold ab; rw [if_neg (by grind)]] at h
   have := ab_ge (x - y)
   grind
  rw [e1, sg_pos this]; exact ⟨rfl, by decide⟩
 ·subst h1; have := ab_nonneg (0 - y); have h0 : ab 0 = 0 := rfl; rw [h0] at h; grind
 ·have : y < 0 := by
   rw [show ab x = -x from by unfold ab; rw [if_pos h1]] at h
   have := ab_ge (x - y)
   grind
  rw [e1, sg_neg this]; exact ⟨rfl, by decide⟩
def chg : Int → List Int → Int
 | _, [] => 0
 | a, s :: l => (if s ≠ 0 ∧ a ≠ 0 ∧ s ≠ a then 1 else 0) + chg (if s ≠ 0 then s else a) l
abbrev Fn := Rat → Rat
def sgs (l : List Fn) (x : Rat) : List Int := l.map fun f => sgQ (f x)
def vrs (l : List Fn) (x : Rat) : Int := chg 0 (sgs l x)
theorem chg_zero (a : Int) (l : List Int) : chg a (0 :: l) = chg a l := by simp [chg]
theorem chg_same {a : Int} (h : a ≠ 0) (l : List Int) : chg a (a :: l) = chg a l := by simp [chg, h]
theorem chg_diff {a s : Int} (h : a ≠ 0) (h2 : s ≠ 0) (h3 : s ≠ a) (l : List Int) : chg a (s :: l) = 1 + chg s l := by simp [chg, h, h2, h3]
theorem chg_first {s : Int} (h : s ≠ 0) (l : List Int) : chg 0 (s :: l) = chg s l := by simp [chg, h]
theorem chg_mid {a s : Int} (h : a ≠ 0) (hs : s = 0 ∨ s = a ∨ s = -a) (l : List Int) : chg a (s :: -a :: l) = 1 + chg (-a) l := by
 rcases hs with rfl | rfl | rfl
 ·rw [chg_zero, chg_diff h (by omega) (by omega)]
 ·rw [chg_same h, chg_diff h (by omega) (by omega)]
 ·rw [chg_diff h (by omega) (by omega), chg_same (by omega)]
def mn (a b : Rat) : Rat := if a ≤ b then a else b
theorem mn_le {t a b : Rat} (h : t ≤ mn a b) : t ≤ a ∧ t ≤ b := by unfold mn at h; split at h <;> grind
theorem mn_pos {a b : Rat} (h : 0 < a) (k : 0 < b) : 0 < mn a b := by unfold mn; split <;> assumption
def Bd (D : Rat → Prop) (f : Fn) : Prop := ∃ M, 0 ≤ M ∧ ∀ x, D x → ab (f x) ≤ M
def Lp (D : Rat → Prop) (f : Fn) : Prop := ∃ L, 0 ≤ L ∧ ∀ x y, D x → D y → ab (f x - f y) ≤ L * ab (x - y)
def SC (D : Rat → Prop) : List Fn → Prop
 | [] => False
 | [c] => ∃ v, v ≠ 0 ∧ ∀ x, D x → c x = v
 | a :: b :: r => Lp D a ∧ Lp D b ∧ SC D (b :: r) ∧ match r with
  | [] => True
  | c :: _ => ∃ (Q : Fn) (k : Rat), 0 < k ∧ Bd D Q ∧ ∀ x, D x → a x = Q x * b x - k * c x
theorem div_pos' {a b : Rat} (ha : 0 < a) (hb : 0 < b) : 0 < a / b ∧ a / b * b = a := by
 have e : a / b * b = a := div_mul_cancel' (Rat.ne_of_gt hb)
 refine ⟨?_, e⟩
 refine Rat.not_le.1 fun h => ?_
 have := Rat.mul_le_mul_of_nonneg_right h (Rat.le_of_lt hb)
 rw [e, Rat.zero_mul] at this
 grind
theorem mul_le' {a b c : Rat} (h : a ≤ b) (hc : 0 ≤ c) : a * c ≤ b * c := Rat.mul_le_mul_of_nonneg_right h hc
theorem SC.far {D : Rat → Prop} : ∀ {r : List Fn} {a b : Fn}, SC D (a :: b :: r) → ∃ e, 0 < e ∧ ∀ x, D x → e ≤ ab (a x) ∨ e ≤ ab (b x)
 | [], a, b, h => by
  obtain ⟨_, _, ⟨v, hv, hb⟩, _⟩ := h
  exact ⟨ab v, ab_pos hv, fun x hx => .inr (by rw [hb x hx]; exact Rat.le_refl)⟩
 | c :: r, a, b, h => by
  obtain ⟨_, _, hs, Q, k, hk, ⟨M, hM, hQ⟩, hr⟩ := h
  obtain ⟨e, he, hf⟩ := SC.far hs
  obtain ⟨d1, d2⟩ := div_pos' (a := k * e) (b := 1 + M) (Rat.mul_pos hk he) (by grind)
  generalize k * e / (1 + M) = f at *
  refine ⟨if e ≤ f then e else f, by split <;> grind, fun x hx => ?_⟩
  have hfe : (if e ≤ f then e else f) ≤ f ∧ (if e ≤ f then e else f) ≤ e := by split <;> grind
  generalize (if e ≤ f then e else f) = g at *
  by_cases hb : g ≤ ab (b x)
  ·exact .inr hb
  ·left
   have hc : e ≤ ab (c x) := (hf x hx).resolve_left (by grind)
   have e1 := hr x hx
   have e2 : k * c x = Q x * b x - a x := by grind
   have e3 := ab_sub (Q x * b x) (a x)
   rw [← e2, ab_mul, ab_mul] at e3
   have e4 : ab k = k := by unfold ab; rw [if_neg (by grind)]
   rw [e4] at e3
   have e5 : e * k ≤ ab (c x) * k := mul_le' hc (by grind)
   have e6 : ab (Q x) * ab (b x) ≤ M * ab (b x) := mul_le' (hQ x hx) (ab_nonneg _)
   have e7 : ab (b x) * M ≤ g * M := mul_le' (by grind) hM
   have e8 : g * M ≤ f * M := mul_le' (by grind) hM
   grind
theorem near_lt {L d e t : Rat} (hL : 0 ≤ L) (he : 0 < e) (hd : d * (1 + L) ≤ e) (ht : t ≤ d) (h0 : 0 ≤ t) : L * t < e := by
 have h1 := mul_le' (a := t) (b := d) (c := L) ht hL
 by_cases hz : d = 0
 ·subst hz; grind
 ·grind
theorem SC.stay {D : Rat → Prop} : ∀ (n : Nat) {r : List Fn} {a : Fn}, r.length ≤ n → SC D (a :: r) → ∃ d, 0 < d ∧ ∀ x y, D x → D y → ab (x - y) ≤ d → sgQ (a x) ≠ 0 → sgQ (a x) = sgQ (a y) → chg (sgQ (a x)) (sgs r x) = chg (sgQ (a y)) (sgs r y)
 | _, [], a, _, _ => ⟨1, by decide, fun x y _ _ _ _ _ => rfl⟩
 | _, [b], a, _, h => by
  obtain ⟨_, _, ⟨v, hv, hb⟩, _⟩ := h
  refine ⟨1, by decide, fun x y hx hy _ h0 e => ?_⟩
  simp only [sgs, List.map_cons, List.map_nil]
  rw [hb x hx, hb y hy, e]
 | n + 1, b :: c :: r, a, hn, h => by
  obtain ⟨_, ⟨Lb, hLb, lb⟩, hs, Q, k, hk, ⟨M, hM, hQ⟩, hr⟩ := h
  have hs2 : SC D (c :: r) := hs.2.2.1
  obtain ⟨Lc, hLc, lc⟩ := hs.2.1
  obtain ⟨d1, p1, A1⟩ := SC.stay n (r := c :: r) (a := b) (by simpa using hn) hs
  obtain ⟨d2, p2, A2⟩ := SC.stay n (r := r) (a := c) (by simp at hn; omega) hs2
  obtain ⟨e, he, hf⟩ := SC.far hs
  obtain ⟨q1, q2⟩ := div_pos' (a := k * e) (b := 1 + M) (Rat.mul_pos hk he) (by grind)
  generalize k * e / (1 + M) = f at *
  obtain ⟨g, hg⟩ : ∃ g, (if e ≤ f then e else f) = g := ⟨_, rfl⟩
  have hg1 : 0 < g ∧ g ≤ e ∧ g ≤ f := by rw [← hg]; split <;> grind
  clear hg
  obtain ⟨d3, p3, m3⟩ : ∃ d, 0 < d ∧ d * (1 + Lb) = g / 2 := ⟨_, div_pos' (a := g / 2) (b := 1 + Lb) (by grind) (by grind)⟩
  obtain ⟨d4, p4, m4⟩ : ∃ d, 0 < d ∧ d * (1 + Lc) = e / 2 := ⟨_, div_pos' (a := e / 2) (b := 1 + Lc) (by grind) (by grind)⟩
  refine ⟨mn (mn d1 d2) (mn d3 d4), mn_pos (mn_pos p1 p2) (mn_pos p3 p4), fun x y hx hy hd h0 hsg => ?_⟩
  obtain ⟨hd12, hd34⟩ := mn_le hd
  obtain ⟨hd1, hd2⟩ := mn_le hd12
  obtain ⟨hd3, hd4⟩ := mn_le hd34
  clear hd12 hd34 hd
  have vb := lb x y hx hy
  have vc := lc x y hx hy
  have vb2 := near_lt (e := g / 2) hLb (by grind) (by grind) hd3 (ab_nonneg _)
  have vc2 := near_lt (e := e / 2) hLc (by grind) (by grind) hd4 (ab_nonneg _)
  simp only [sgs, List.map_cons]
  by_cases hb : g / 2 ≤ ab (b x)
  ·obtain ⟨s1, s2⟩ := sg_near (x := b x) (y := b y) (by grind)
   have := A1 x y hx hy hd1 s2 s1
   simp only [sgs, List.map_cons] at this
   rw [← hsg]
   by_cases hc : sgQ (b x) = sgQ (a x)
   ·rw [s1] at hc
    rw [s1, hc, chg_same h0, chg_same h0]
    rw [s1, hc] at this
    exact this
   ·rw [chg_diff h0 s2 hc, chg_diff h0 (by rw [← s1]; exact s2) (by rw [← s1]; exact hc), this]
  ·have hby : ab (b y) < g := by
    have := ab_sub (b x) (b x - b y)
    have e' : b x - (b x - b y) = b y := by grind
    rw [e'] at this
    grind
   have cx : e ≤ ab (c x) := (hf x hx).resolve_left (by grind)
   have cy : e ≤ ab (c y) := (hf y hy).resolve_left (by grind)
   obtain ⟨s1, s2⟩ := sg_near (x := c x) (y := c y) (by grind)
   have hopp : sgQ (c x) = - sgQ (a x) := by
    have e1 := hr x hx
    have e3 := ab_mul (Q x) (b x)
    have e6 : ab (Q x) * ab (b x) ≤ M * ab (b x) := mul_le' (hQ x hx) (ab_nonneg _)
    have e7 : ab (b x) * M ≤ g * M := mul_le' (by grind) hM
    have e8 : g * M ≤ f * M := mul_le' (by grind) hM
    have e9 := ab_ge (Q x * b x)
    have hlt : ab (Q x * b x) < k * e := by grind
    rcases sg_cases (c x) with ⟨h1, g1⟩ | ⟨h1, g1⟩ | ⟨h1, g1⟩
    ·have e5 : e * k ≤ c x * k := mul_le' (by unfold ab at cx; rw [if_neg (by grind)] at cx; exact cx) (by grind)
     rw [g1, sg_neg (x := a x) (by grind)]; rfl
    ·rw [g1] at s2; exact absurd rfl s2
    ·have e5 : e * k ≤ (-(c x)) * k := mul_le' (by unfold ab at cx; rw [if_pos h1] at cx; exact cx) (by grind)
     rw [g1, sg_pos (x := a x) (by grind)]
   have hm : ∀ t : Rat, sgQ t = 0 ∨ sgQ t = sgQ (a x) ∨ sgQ t = - sgQ (a x) := fun t => by
    rcases sg_cases t with ⟨_, g1⟩ | ⟨_, g1⟩ | ⟨_, g1⟩ <;> rcases sg_cases (a x) with ⟨_, g2⟩ | ⟨_, g2⟩ | ⟨_, g2⟩ <;> first | (rw [g2] at h0; exact absurd rfl h0) | (rw [g1, g2]; decide)
   have := A2 x y hx hy hd2 s2 s1
   rw [← hsg, ← s1, hopp]
   rw [chg_mid h0 (hm (b x)), chg_mid h0 (hm (b y))]
   simp only [sgs] at this
   rw [← s1, hopp] at this
   rw [this]
def Cross (q : Fn) (x y : Rat) : Prop := (q x < 0 ∧ 0 ≤ q y) ∨ (0 < q x ∧ q y ≤ 0)
instance (q : Fn) (x y : Rat) : Decidable (Cross q x y) := by unfold Cross; exact inferInstance
theorem cross_up {u v : Rat} (h : u < v) : (if sgQ u = -1 then (1 : Int) else 0) - (if sgQ v = -1 then 1 else 0) = if (u < 0 ∧ 0 ≤ v) ∨ (0 < u ∧ v ≤ 0) then 1 else 0 := by
 rcases sg_cases u with ⟨k1, j1⟩ | ⟨k1, j1⟩ | ⟨k1, j1⟩ <;> rcases sg_cases v with ⟨k2, j2⟩ | ⟨k2, j2⟩ | ⟨k2, j2⟩ <;> rw [j1, j2] <;> (try (exfalso; grind)) <;> first | (rw [if_pos (by grind : (u < 0 ∧ 0 ≤ v) ∨ (0 < u ∧ v ≤ 0))]; decide) | (rw [if_neg (by grind : ¬ ((u < 0 ∧ 0 ≤ v) ∨ (0 < u ∧ v ≤ 0)))]; decide)
theorem cross_dn {u v : Rat} (h : v < u) : (if sgQ u = - -1 then (1 : Int) else 0) - (if sgQ v = - -1 then 1 else 0) = if (u < 0 ∧ 0 ≤ v) ∨ (0 < u ∧ v ≤ 0) then 1 else 0 := by
 rcases sg_cases u with ⟨k1, j1⟩ | ⟨k1, j1⟩ | ⟨k1, j1⟩ <;> rcases sg_cases v with ⟨k2, j2⟩ | ⟨k2, j2⟩ | ⟨k2, j2⟩ <;> rw [j1, j2] <;> (try (exfalso; grind)) <;> first | (rw [if_pos (by grind : (u < 0 ∧ 0 ≤ v) ∨ (0 < u ∧ v ≤ 0))]; decide) | (rw [if_neg (by grind : ¬ ((u < 0 ∧ 0 ≤ v) ∨ (0 < u ∧ v ≤ 0)))]; decide)
theorem SC.short {D : Rat → Prop} {q q1 d : Fn} {r : List Fn} (h : SC D (q :: q1 :: r)) {k : Rat} (hk : 0 < k) (hq : ∀ x, D x → q1 x = k * d x) {K : Rat} (hK : 0 ≤ K) (ht : ∀ x y, D x → D y → ab (q y - q x - (y - x) * d x) ≤ K * (ab (y - x) * ab (y - x))) :
    ∃ e, 0 < e ∧ ∀ x y, D x → D y → x < y → y - x ≤ e → vrs (q :: q1 :: r) x - vrs (q :: q1 :: r) y = if Cross q x y then 1 else 0 := by
  have hs1 : SC D (q1 :: r) := h.2.2.1
  obtain ⟨L0, hL0, l0⟩ := h.1
  obtain ⟨L1, hL1, l1⟩ := h.2.1
  obtain ⟨d0, p0, A0⟩ := SC.stay _ (Nat.le_refl _) h
  obtain ⟨d1, p1, A1⟩ := SC.stay _ (Nat.le_refl _) hs1
  obtain ⟨e, he, hf⟩ := SC.far h
  obtain ⟨d3, p3, m3⟩ : ∃ d, 0 < d ∧ d * (1 + L0) = e / 2 := ⟨_, div_pos' (a := e / 2) (b := 1 + L0) (by grind) (by grind)⟩
  obtain ⟨d4, p4, m4⟩ : ∃ d, 0 < d ∧ d * (1 + L1) = e / 2 := ⟨_, div_pos' (a := e / 2) (b := 1 + L1) (by grind) (by grind)⟩
  obtain ⟨u, pu, mu⟩ : ∃ d, 0 < d ∧ d * k = e := ⟨_, div_pos' (a := e) (b := k) he hk⟩
  obtain ⟨d5, p5, m5⟩ : ∃ d, 0 < d ∧ d * (1 + K) = u / 2 := ⟨_, div_pos' (a := u / 2) (b := 1 + K) (by grind) (by grind)⟩
  refine ⟨mn (mn d0 d1) (mn (mn d3 d4) d5), mn_pos (mn_pos p0 p1) (mn_pos (mn_pos p3 p4) p5), fun x y hx hy hxy hd => ?_⟩
  have hab : ab (x - y) = y - x := by unfold ab; rw [if_pos (by grind)]; grind
  have hab' : ab (y - x) = y - x := by unfold ab; rw [if_neg (by grind)]
  obtain ⟨hd01, hd35⟩ := mn_le hd
  obtain ⟨hd0, hd1⟩ := mn_le hd01
  obtain ⟨hd34, hd5⟩ := mn_le hd35
  obtain ⟨hd3, hd4⟩ := mn_le hd34
  clear hd01 hd35 hd34 hd
  have v0 := l0 x y hx hy
  have v1 := l1 x y hx hy
  rw [hab] at v0 v1
  have w0 := near_lt (e := e / 2) hL0 (by grind) (by grind) hd3 (by grind)
  have w1 := near_lt (e := e / 2) hL1 (by grind) (by grind) hd4 (by grind)
  unfold vrs
  by_cases hb : e / 2 ≤ ab (q x)
  · obtain ⟨s1, s2⟩ := sg_near (x := q x) (y := q y) (by grind)
    have := A0 x y hx hy (by rw [hab]; exact hd0) s2 s1
    have e1 : ∀ z, sgs (q :: q1 :: r) z = sgQ (q z) :: sgs (q1 :: r) z := fun z => rfl
    rw [e1, e1, chg_first s2, chg_first (by rw [← s1]; exact s2), this]
    have hc : ¬ Cross q x y := by
      unfold Cross
      rcases sg_cases (q x) with ⟨h1, g1⟩ | ⟨h1, g1⟩ | ⟨h1, g1⟩ <;> rcases sg_cases (q y) with ⟨h2, g2⟩ | ⟨h2, g2⟩ | ⟨h2, g2⟩ <;> rw [g1, g2] at s1 <;> first | (exact absurd s1 (by decide)) | (rw [g1] at s2; exact absurd rfl s2) | grind
    rw [if_neg hc]; omega
  · have hqy : ab (q y) < e := by
      have := ab_sub (q x) (q x - q y)
      have e' : q x - (q x - q y) = q y := by grind
      rw [e'] at this
      grind
    have cx : e ≤ ab (q1 x) := (hf x hx).resolve_left (by grind)
    obtain ⟨s1, s2⟩ := sg_near (x := q1 x) (y := q1 y) (by grind)
    have := A1 x y hx hy (by rw [hab]; exact hd1) s2 s1
    have e1 : ∀ z, sgs (q :: q1 :: r) z = sgQ (q z) :: sgQ (q1 z) :: sgs r z := fun z => rfl
    rw [e1, e1]
    have step : ∀ (a s : Int) (l : List Int), (a = 0 ∨ a = s ∨ a = -s) → s ≠ 0 → chg 0 (a :: s :: l) = (if a = -s then 1 else 0) + chg s l := fun a s l ha hs => by
      rcases ha with rfl | rfl | rfl
      · rw [chg_zero, chg_first hs, if_neg (by omega)]; omega
      · rw [chg_first hs, chg_same hs, if_neg (by omega)]; omega
      · rw [chg_first (by omega), chg_diff (by omega) hs (by omega), if_pos rfl]
    have hm : ∀ t : Rat, sgQ t = 0 ∨ sgQ t = sgQ (q1 x) ∨ sgQ t = - sgQ (q1 x) := fun t => by
      rcases sg_cases t with ⟨_, g1⟩ | ⟨_, g1⟩ | ⟨_, g1⟩ <;> rcases sg_cases (q1 x) with ⟨_, g2⟩ | ⟨_, g2⟩ | ⟨_, g2⟩ <;> first | (rw [g2] at s2; exact absurd rfl s2) | (rw [g1, g2]; decide)
    rw [← s1, step _ _ _ (hm (q x)) s2, step _ _ _ (hm (q y)) s2]
    rw [← s1] at this
    rw [this]
    -- the first function goes the way of the second one's sign
    have hT := ht x y hx hy
    rw [hab'] at hT
    have hge := ab_ge (q y - q x - (y - x) * d x)
    have hq1 := hq x hx
    have t1 : K * (y - x) < u / 2 := near_lt hK (by grind) (by grind) hd5 (by grind)
    have t2 : K * (y - x) * (y - x) ≤ u / 2 * (y - x) := mul_le' (Rat.le_of_lt t1) (by grind)
    rcases sg_cases (q1 x) with ⟨h1, g1⟩ | ⟨h1, g1⟩ | ⟨h1, g1⟩
    · have cx' : e ≤ k * d x := by rw [← hq1]; unfold ab at cx; rw [if_neg (by grind)] at cx; exact cx
      have hdx : u ≤ d x := by
        refine Rat.not_lt.1 fun h => ?_
        have := Rat.mul_lt_mul_of_pos_left h hk
        grind
      have t3 : u * (y - x) ≤ d x * (y - x) := mul_le' hdx (by grind)
      have t4 : 0 < u * (y - x) := Rat.mul_pos pu (by grind)
      have up : q x < q y := by grind
      rw [g1]
      have hc := cross_up up
      unfold Cross
      omega
    · rw [g1] at s2; exact absurd rfl s2
    · have cx' : e ≤ k * (-(d x)) := by
        have : k * (-(d x)) = -(q1 x) := by rw [hq1]; grind
        rw [this]; unfold ab at cx; rw [if_pos h1] at cx; exact cx
      have hdx : u ≤ -(d x) := by
        refine Rat.not_lt.1 fun h => ?_
        have := Rat.mul_lt_mul_of_pos_left h hk
        grind
      have t3 : u * (y - x) ≤ -(d x) * (y - x) := mul_le' hdx (by grind)
      have t4 : 0 < u * (y - x) := Rat.mul_pos pu (by grind)
      have dn : q y < q x := by grind
      rw [g1]
      have hc := cross_dn dn
      unfold Cross
      omega
def inD (X x : Rat) : Prop := ab x ≤ X
theorem inD_mid {X lo hi z : Rat} (h1 : inD X lo) (h2 : inD X hi) (h3 : lo ≤ z) (h4 : z ≤ hi) : inD X z := by
 unfold inD ab at *
 split at h1 <;> split at h2 <;> split <;> grind
theorem mul_le_mul' {a b c d : Rat} (h1 : a ≤ b) (h2 : c ≤ d) (hc : 0 ≤ c) (hb : 0 ≤ b) : a * c ≤ b * d := by
 have h3 := mul_le' h1 hc
 have h4 := mul_le' h2 hb
 rw [Rat.mul_comm c, Rat.mul_comm d] at h4
 exact Rat.le_trans h3 h4
theorem bd_poly (X : Rat) (hX : 0 ≤ X) : ∀ p : List Rat, Bd (inD X) (evalP p)
 | [] => ⟨0, Rat.le_refl, fun x _ => by show ab 0 ≤ 0; decide +kernel⟩
 | a :: p => by
  obtain ⟨M, hM, h⟩ := bd_poly X hX p
  refine ⟨ab a + X * M, by have := ab_nonneg a; have := Rat.mul_nonneg hX hM; grind, fun x hx => ?_⟩
  rw [ev_cons]
  have h1 := ab_add a (x * evalP p x)
  rw [ab_mul] at h1
  have h2 := mul_le_mul' hx (h x hx) (ab_nonneg _) hX
  grind
theorem lp_poly (X : Rat) (hX : 0 ≤ X) : ∀ p : List Rat, Lp (inD X) (evalP p)
 | [] => ⟨0, Rat.le_refl, fun x y _ _ => by show ab (0 - 0) ≤ 0 * ab (x - y); rw [Rat.zero_mul]; decide +kernel⟩
 | a :: p => by
  obtain ⟨M, hM, h⟩ := bd_poly X hX p
  obtain ⟨L, hL, k⟩ := lp_poly X hX p
  refine ⟨X * L + M, by have := Rat.mul_nonneg hX hL; grind, fun x y hx hy => ?_⟩
  rw [ev_cons, ev_cons]
  have e : a + x * evalP p x - (a + y * evalP p y) = x * (evalP p x - evalP p y) + (x - y) * evalP p y := by grind
  rw [e]
  have h1 := ab_add (x * (evalP p x - evalP p y)) ((x - y) * evalP p y)
  rw [ab_mul, ab_mul] at h1
  have h2 := mul_le_mul' hx (k x y hx hy) (ab_nonneg _) hX
  have h3 := mul_le_mul' (h y hy) (Rat.le_refl (a := ab (x - y))) (ab_nonneg _) hM
  grind
theorem taylor (X : Rat) (hX : 0 ≤ X) : ∀ p : List Rat, ∃ K, 0 ≤ K ∧ ∀ x y, inD X x → inD X y → ab (evalP p y - evalP p x - (y - x) * dEv p x) ≤ K * (ab (y - x) * ab (y - x))
 | [] => ⟨0, Rat.le_refl, fun x y _ _ => by rw [Rat.zero_mul, dEv_nil]; show ab (0 - 0 - (y - x) * 0) ≤ 0; rw [Rat.mul_zero]; decide +kernel⟩
 | a :: p => by
  obtain ⟨M, hM, h⟩ := bd_poly X hX (derC p)
  obtain ⟨K, hK, k⟩ := taylor X hX p
  refine ⟨X * K + M, by have := Rat.mul_nonneg hX hK; grind, fun x y hx hy => ?_⟩
  rw [ev_cons, ev_cons, dEv_cons]
  have e : a + y * evalP p y - (a + x * evalP p x) - (y - x) * (evalP p x + x * dEv p x) = y * (evalP p y - evalP p x - (y - x) * dEv p x) + (y - x) * (y - x) * dEv p x := by grind
  rw [e]
  have h1 := ab_add (y * (evalP p y - evalP p x - (y - x) * dEv p x)) ((y - x) * (y - x) * dEv p x)
  rw [ab_mul, ab_mul, ab_mul] at h1
  have h2 := mul_le_mul' hy (k x y hx hy) (ab_nonneg _) hX
  have h4 : ab (dEv p x) ≤ M := h x hx
  have h3 := mul_le_mul' h4 (Rat.le_refl (a := ab (y - x) * ab (y - x))) (Rat.mul_nonneg (ab_nonneg _) (ab_nonneg _)) hM
  grind
structure ChS (ch : List Rat → List Rat) : Prop where
 tr : ∀ p, Tr p → Tr (ch p)
 len : ∀ p, (ch p).length = p.length
 ev : ∀ p, Tr p → ∃ k : Rat, 0 < k ∧ ∀ x, evalP p x = k * evalP (ch p) x
def Bez (a b : List Rat) : Prop := ∃ u v : List Rat, ∀ x, evalP u x * evalP a x + evalP v x * evalP b x = 1
theorem bez_const {a : List Rat} (ta : Tr a) (h : Bez a []) : ∃ c : Rat, c ≠ 0 ∧ a = [c] := by
 obtain ⟨u, v, h⟩ := h
 have e : ∀ x, evalP u x * evalP a x = 1 := fun x => by
  have := h x
  have e0 : evalP [] x = 0 := rfl
  rw [e0, Rat.mul_zero, Rat.add_zero] at this
  exact this
 have a0 : a ≠ [] := fun ea => by
  have := e 0
  rw [ea] at this
  have e0 : evalP [] 0 = 0 := rfl
  rw [e0, Rat.mul_zero] at this
  exact absurd this (by decide +kernel)
 have u0 : trimP u ≠ [] := fun eu => by
  have := e 0
  rw [← eval_trim u, eu] at this
  have e0 : evalP [] 0 = 0 := rfl
  rw [e0, Rat.zero_mul] at this
  exact absurd this (by decide +kernel)
 have e1 : mulT (trimP u) a = [1] := (tr_mulT _ _).ext (fun _ => by decide +kernel) fun i => by
  unfold mulT
  rw [cf_trim]
  exact eqv_of_eval (fun x => by rw [eval_mul, eval_trim, e x]; simp only [evalP]; grind) i
 have l1 := (mulT_len (tr_trim u) ta u0 a0).1
 rw [e1] at l1
 have := ne_len u0
 have := ne_len a0
 have hl : a.length = 1 := by simp at l1; omega
 match a, hl with
 | [c], _ => exact ⟨c, fun ec => ta (by simp) (by rw [ec]; rfl), rfl⟩
theorem chain_cons (ch : List Rat → List Rat) {n : Nat} {a b : List Rat} (a0 : a ≠ []) : chainL ch (n + 1) a b = a :: (if b = [] then [] else chainL ch n b (ch (negC (remP a b)))) := by
 rw [chainL, if_neg a0]
 split <;> rfl
theorem bez_next {ch : List Rat → List Rat} (hc : ChS ch) {a b : List Rat} (ta : Tr a) (tb : Tr b) (b0 : b ≠ []) (h : Bez a b) : Bez b (ch (negC (remP a b))) ∧ ∃ k : Rat, 0 < k ∧ ∀ x, evalP a x = evalP (divP a b).1 x * evalP b x - k * evalP (ch (negC (remP a b))) x := by
 obtain ⟨u, v, h⟩ := h
 obtain ⟨k, hk, e⟩ := hc.ev (negC (remP a b)) (tr_neg (tr_rem ta tb b0))
 have e1 : ∀ x, evalP a x = evalP (divP a b).1 x * evalP b x - k * evalP (ch (negC (remP a b))) x := fun x => by
  have hs := eval_ext x (divP_spec ta tb b0).2.2.2
  rw [eval_add, eval_mul] at hs
  have h2 := e x
  unfold negC at h2
  rw [eval_smul] at h2
  rw [show remP a b = (divP a b).2 from rfl] at h2
  unfold negC
  rw [show remP a b = (divP a b).2 from rfl]
  grind
 refine ⟨⟨addC (mulC u (divP a b).1) v, smul (-k) u, fun x => ?_⟩, k, hk, e1⟩
 rw [eval_add, eval_mul, eval_smul, ← h x, e1 x]
 grind
theorem sc_chain {ch : List Rat → List Rat} (hc : ChS ch) (X : Rat) (hX : 0 ≤ X) : ∀ (n : Nat) {a b : List Rat}, Tr a → Tr b → a ≠ [] → b.length < n → (b ≠ [] → b.length < a.length) → Bez a b → SC (inD X) ((chainL ch n a b).map evalP)
 | 0, a, b, _, _, _, h, _, _ => by omega
 | n + 1, a, b, ta, tb, a0, hn, hl, hb => by
  rw [chain_cons ch a0]
  by_cases b0 : b = []
  ·rw [if_pos b0]
   subst b0
   obtain ⟨c, c0, rfl⟩ := bez_const ta hb
   exact ⟨c, c0, fun x _ => by simp only [evalP]; grind⟩
  ·rw [if_neg b0]
   have hl2 := hl b0
   obtain ⟨h1, k, hk, h2⟩ := bez_next hc ta tb b0 hb
   have tc : Tr (ch (negC (remP a b))) := hc.tr _ (tr_neg (tr_rem ta tb b0))
   have lc : (ch (negC (remP a b))).length < b.length := by
    rw [hc.len]
    show (smul (-1) _).length < _
    rw [len_smul]
    exact rem_len ta tb b0
   have ih := sc_chain hc X hX n tb tc b0 (by omega) (fun _ => lc) h1
   obtain ⟨m, rfl⟩ : ∃ m, n = m + 1 := ⟨n - 1, by have := ne_len b0; omega⟩
   rw [chain_cons ch b0] at ih ⊢
   generalize ch (negC (remP a b)) = c at *
   by_cases c0 : c = []
   ·rw [if_pos c0] at ih ⊢
    exact ⟨lp_poly X hX a, lp_poly X hX b, ih, trivial⟩
   ·rw [if_neg c0] at ih ⊢
    obtain ⟨j, rfl⟩ : ∃ j, m = j + 1 := ⟨m - 1, by have := ne_len c0; omega⟩
    rw [chain_cons ch c0] at ih ⊢
    exact ⟨lp_poly X hX a, lp_poly X hX b, ih, evalP (divP a b).1, k, hk, bd_poly X hX _, fun x _ => h2 x⟩
theorem vrs_short {ch : List Rat → List Rat} (hc : ChS ch) {X : Rat} (hX : 0 ≤ X) {Q : List Rat} (tQ : Tr Q) (hb : Bez Q (derP Q)) {n : Nat} (hn : Q.length < n) : ∃ e : Rat, 0 < e ∧ ∀ x y, inD X x → inD X y → x < y → y - x ≤ e → vrs ((chainL ch n Q (derP Q)).map evalP) x - vrs ((chainL ch n Q (derP Q)).map evalP) y = if Cross (evalP Q) x y then 1 else 0 := by
 have tE : Tr (derP Q) := tr_trim _
 have Q0 : Q ≠ [] := fun e => by
  obtain ⟨u, v, h⟩ := hb
  have := h 0
  rw [e] at this
  have e0 : evalP [] 0 = 0 := rfl
  have e1 : evalP (derP []) 0 = 0 := rfl
  rw [e0, e1, Rat.mul_zero, Rat.mul_zero] at this
  exact absurd this (by decide +kernel)
 have lt : (derP Q).length < Q.length := by
  have := derP_lt (p := Q) (by rw [trim_of tQ]; exact Q0)
  rwa [trim_of tQ] at this
 obtain ⟨m, rfl⟩ : ∃ m, n = m + 1 := ⟨n - 1, by omega⟩
 by_cases E0 : derP Q = []
 ·rw [E0] at hb
  obtain ⟨c, c0, rfl⟩ := bez_const tQ hb
  refine ⟨1, by decide, fun x y _ _ _ _ => ?_⟩
  rw [chain_cons ch Q0, if_pos E0]
  have ev : ∀ z, evalP [c] z = c := fun z => by simp only [evalP]; grind
  have hcr : ¬ Cross (evalP [c]) x y := by unfold Cross; rw [ev, ev]; grind
  rw [if_neg hcr]
  simp [vrs, sgs, chg, ev]
 ·have hs := sc_chain hc X hX (m + 1) tQ tE Q0 (by omega) (fun _ => lt) hb
  obtain ⟨K, hK, ht⟩ := taylor X hX Q
  obtain ⟨j, rfl⟩ : ∃ j, m = j + 1 := ⟨m - 1, by have := ne_len E0; omega⟩
  rw [chain_cons ch Q0, if_neg E0, chain_cons ch E0] at hs ⊢
  exact SC.short hs (k := 1) (by decide) (d := dEv Q) (fun x _ => by rw [Rat.one_mul]; exact eval_derP Q x) hK ht
theorem rat_le_nat (x : Rat) : ∃ N : Nat, x ≤ (N : Rat) := by
 refine ⟨(x.floor + 1).toNat, ?_⟩
 have h1 := Rat.lt_floor_add_one x
 have h2 : ((x.floor + 1 : Int) : Rat) ≤ (((x.floor + 1).toNat : Int) : Rat) := Rat.intCast_le_intCast.2 (by omega)
 rw [← Rat.intCast_natCast]
 exact Rat.le_trans (Rat.le_of_lt h1) h2
theorem ways {X : Rat} {R : Rat → Rat → Prop} (tr : ∀ x y z, R x y → R y z → R x z) {e : Rat} (he : 0 < e) (h : ∀ x y, inD X x → inD X y → x < y → y - x ≤ e → R x y) {lo hi : Rat} (hl : lo < hi) (h1 : inD X lo) (h2 : inD X hi) : R lo hi := by
 have key : ∀ (N : Nat) (lo hi : Rat), lo < hi → inD X lo → inD X hi → hi - lo ≤ (N : Rat) * e → R lo hi := by
  intro N
  induction N with
  | zero =>
   intro lo hi hl h1 h2 hN
   have e0 : ((0 : Nat) : Rat) = 0 := rfl
   rw [e0, Rat.zero_mul] at hN
   grind
  | succ N ih =>
   intro lo hi hl h1 h2 hN
   by_cases hs : hi - lo ≤ e
   ·exact h lo hi h1 h2 hl hs
   ·have hm : inD X (lo + e) := inD_mid h1 h2 (by grind) (by grind)
    refine tr lo (lo + e) hi (h lo (lo + e) h1 hm (by grind) (by grind)) (ih (lo + e) hi (by grind) hm h2 ?_)
    have e1 : ((N + 1 : Nat) : Rat) = (N : Rat) + 1 := by rw [Rat.natCast_add]; rfl
    rw [e1] at hN
    grind
 obtain ⟨N, hN⟩ := rat_le_nat ((hi - lo) / e)
 refine key N lo hi hl h1 h2 ?_
 have h3 := mul_le' hN (Rat.le_of_lt he)
 rwa [div_mul_cancel' (Rat.ne_of_gt he)] at h3
theorem inD_two (x y : Rat) : ∃ X : Rat, 0 ≤ X ∧ inD X x ∧ inD X y := by
 refine ⟨ab x + ab y, by have := ab_nonneg x; have := ab_nonneg y; grind, ?_, ?_⟩ <;> (unfold inD; have := ab_nonneg x; have := ab_nonneg y; grind)
theorem vrs_le {ch : List Rat → List Rat} (hc : ChS ch) {Q : List Rat} (tQ : Tr Q) (hb : Bez Q (derP Q)) {n : Nat} (hn : Q.length < n) {lo hi : Rat} (hl : lo < hi) : vrs ((chainL ch n Q (derP Q)).map evalP) hi ≤ vrs ((chainL ch n Q (derP Q)).map evalP) lo := by
 obtain ⟨X, hX, h1, h2⟩ := inD_two lo hi
 obtain ⟨e, he, h⟩ := vrs_short hc hX tQ hb hn
 refine ways (R := fun x y => vrs ((chainL ch n Q (derP Q)).map evalP) y ≤ vrs ((chainL ch n Q (derP Q)).map evalP) x) (fun x y z a b => Int.le_trans b a) he (fun x y hx hy hxy hd => ?_) hl h1 h2
 have := h x y hx hy hxy hd
 split at this <;> omega
def prodP : List Rat → List Rat
 | [] => [1]
 | s :: S => mulC [-s, 1] (prodP S)
def prodV : List Rat → Rat → Rat
 | [], _ => 1
 | s :: S, x => (x - s) * prodV S x
theorem ev_lin (s x : Rat) : evalP [-s, 1] x = x - s := by simp only [evalP]; grind
theorem ev_one (x : Rat) : evalP [1] x = 1 := by simp only [evalP]; grind
theorem ev_prod : ∀ (S : List Rat) (x : Rat), evalP (prodP S) x = prodV S x
 | [], x => ev_one x
 | s :: S, x => by rw [prodP, eval_mul, ev_lin, ev_prod S x]; rfl
theorem prod_root : ∀ {S : List Rat} {s : Rat}, s ∈ S → prodV S s = 0
 | t :: S, s, h => by
  rcases List.mem_cons.1 h with rfl | h
  ·show (s - s) * _ = 0; rw [Rat.sub_self, Rat.zero_mul]
  ·show (s - t) * _ = 0; rw [prod_root h, Rat.mul_zero]
theorem mul0 {a b : Rat} (h : a * b = 0) (ha : a ≠ 0) : b = 0 := (Rat.mul_eq_zero.1 h).resolve_left ha
theorem root_syn {p : List Rat} {s : Rat} (h : evalP p s = 0) (x : Rat) : evalP p x = (x - s) * evalP (syn p s) x := by
 have := syn_eval p s x
 rw [h, Rat.zero_add] at this
 exact this
theorem factor : ∀ {S : List Rat} {Q : List Rat}, S.Nodup → (∀ s ∈ S, evalP Q s = 0) → ∃ w : List Rat, ∀ x, evalP Q x = prodV S x * evalP w x
  | [], Q, _, _ => ⟨Q, fun x => by show _ = 1 * _; rw [Rat.one_mul]⟩
  | s :: S, Q, hn, h => by
    obtain ⟨n1, n2⟩ := List.nodup_cons.1 hn
    have e := root_syn (h s List.mem_cons_self)
    obtain ⟨w, hw⟩ := factor (Q := syn Q s) n2 (fun t ht => by
      have h1 := h t (List.mem_cons_of_mem _ ht)
      rw [e t] at h1
      exact mul0 h1 (fun e2 => n1 (by have : t = s := by grind
                                      rw [← this]; exact ht)))
    exact ⟨w, fun x => by rw [e x, hw x]; show _ = (x - s) * prodV S x * _; rw [Rat.mul_assoc]⟩
theorem lin_ne (r : Rat) : ∃ x, evalP [-r, 1] x ≠ 0 := ⟨r + 1, by rw [ev_lin]; grind⟩
theorem prod_exists (S : List Rat) : ∃ x, evalP (prodP S) x ≠ 0 := by
 induction S with
 | nil => exact ⟨0, by rw [ev_prod]; show (1 : Rat) ≠ 0; decide⟩
 | cons s S ih => exact mul_ne2 (lin_ne s) ih
theorem strip : ∀ {R : List Rat} {w g q : List Rat}, (∀ r ∈ R, evalP w r ≠ 0) → (∀ x, evalP w x * evalP g x = prodV R x * evalP q x) → ∃ f : List Rat, (∀ x, evalP w x * evalP f x = evalP q x) ∧ ∀ x, evalP g x = prodV R x * evalP f x
 | [], w, g, q, _, h => ⟨g, fun x => by rw [h x]; show 1 * _ = _; rw [Rat.one_mul], fun x => by show _ = 1 * _; rw [Rat.one_mul]⟩
 | r :: R, w, g, q, hw, h => by
  have hr : evalP g r = 0 := by
   have := h r
   rw [prod_root List.mem_cons_self, Rat.zero_mul] at this
   exact mul0 this (hw r List.mem_cons_self)
  have e := root_syn hr
  have k := cancel (a := [-r, 1]) (b := mulC w (syn g r)) (c := mulC (prodP R) q) (lin_ne r) fun x => by
   rw [ev_lin, eval_mul, eval_mul, ev_prod]
   have := h x
   rw [e x] at this
   have e2 : prodV (r :: R) x = (x - r) * prodV R x := rfl
   rw [e2] at this
   grind
  obtain ⟨f, hf1, hf2⟩ := strip (R := R) (w := w) (g := syn g r) (q := q) (fun t ht => hw t (List.mem_cons_of_mem _ ht)) (fun x => by
   have := k x
   rwa [eval_mul, eval_mul, ev_prod] at this)
  exact ⟨f, hf1, fun x => by rw [e x, hf2 x]; show _ = (x - r) * prodV R x * _; rw [Rat.mul_assoc]⟩
theorem root_desc {Q W g : List Rat} {s : Rat} (hQ : evalP Q s ≠ 0) (h5 : ∀ x, evalP Q x * dEv g x = evalP g x * evalP W x) : ∀ (n j : Nat) (H t : List Rat), 1 ≤ j → t.length ≤ n → (∃ x, evalP t x ≠ 0) → (∃ x, evalP H x ≠ 0) → (∀ x, evalP g x = evalP H x * evalP t x) → (∀ x, dEv g x = dEv H x * evalP t x + evalP H x * dEv t x) → (∀ x, dEv H x * (x - s) = (j : Rat) * evalP H x) → False
 | 0, j, H, t, hj, hl, ⟨x, hx⟩, _, _, _, _ => by
  have : t = [] := List.length_eq_zero_iff.1 (by omega)
  rw [this] at hx
  exact hx rfl
 | n + 1, j, H, t, hj, hl, ht, H0, e1, e2, e3 => by
  have k := cancel (a := H) (b := mulC Q (addC (smul (j : Rat) t) (mulC [-s, 1] (derC t)))) (c := mulC [-s, 1] (mulC t W)) H0 fun x => by
   rw [eval_mul, eval_add, eval_smul, eval_mul, ev_lin, eval_mul, eval_mul, ev_lin]
   show _ * (_ * (_ + _ * dEv t x)) = _
   have a := h5 x
   rw [e2 x, e1 x] at a
   have b := e3 x
   have c : evalP H x * (evalP Q x * ((j : Rat) * evalP t x + (x - s) * dEv t x)) = evalP Q x * ((j : Rat) * evalP H x * evalP t x + evalP H x * dEv t x * (x - s)) := by grind
   rw [c, ← b]
   grind
  have hs : evalP t s = 0 := by
   have := k s
   rw [eval_mul, eval_add, eval_smul, eval_mul, ev_lin, eval_mul, ev_lin, Rat.sub_self, Rat.zero_mul, Rat.zero_mul, Rat.add_zero] at this
   have h1 := mul0 this hQ
   refine mul0 h1 ?_
   intro e
   have e0 : ((j : Nat) : Rat) = ((0 : Nat) : Rat) := e
   have := Rat.natCast_inj.1 e0
   omega
  have e := root_syn hs
  obtain ⟨y, hy⟩ := ht
  refine root_desc hQ h5 n (j + 1) (mulC H [-s, 1]) (syn t s) (by omega) (by rw [syn_len]; omega) ⟨y, fun e0 => hy (by rw [e y, e0, Rat.mul_zero])⟩ (mul_ne2 H0 (lin_ne s)) (fun x => ?_) (fun x => ?_) (fun x => ?_)
  ·rw [e1 x, eval_mul, ev_lin, e x]; grind
  ·have d1 : dEv t x = dEv [-s, 1] x * evalP (syn t s) x + evalP [-s, 1] x * dEv (syn t s) x := by
    rw [← dEv_mul]
    exact dEv_ext (eqv_of_eval fun z => by rw [eval_mul, ev_lin]; exact e z) x
   rw [e2 x, dEv_mul, eval_mul, ev_lin, d1, e x, ev_lin]; grind
  ·have d2 : dEv [-s, 1] x = 1 := by rw [dEv_cons, dEv_cons, dEv_nil]; simp only [evalP]; grind
   rw [dEv_mul, eval_mul, ev_lin, d2]
   have b := e3 x
   have e4 : ((j + 1 : Nat) : Rat) = (j : Rat) + 1 := by rw [Rat.natCast_add]; rfl
   rw [e4]
   grind
theorem root_keep {p Q : List Rat} (tp : Tr p) (p0 : p ≠ []) (hQ : ∀ x, evalP p x = evalP Q x * evalP (gcdP p (derP p)) x) {s : Rat} (hs : evalP p s = 0) : evalP Q s = 0 := by
 refine Classical.byContradiction fun hn => ?_
 have td : Tr (derP p) := tr_trim _
 obtain ⟨g1, g2⟩ := gcdP_tr tp td
 obtain ⟨g3, g4⟩ := g2 (.inl p0)
 obtain ⟨R, hR⟩ := dvd_eval (gcdP_dvd tp td).2
 generalize gcdP p (derP p) = g at *
 have gs : evalP g s = 0 := by
  rw [hQ s] at hs
  exact mul0 hs hn
 have e := root_syn gs
 obtain ⟨y, hy⟩ := ev_ne g1 g3
 have dp : ∀ x, dEv p x = dEv Q x * evalP g x + evalP Q x * dEv g x := fun x => by
  rw [← dEv_mul]
  exact dEv_ext (eqv_of_eval fun y => by rw [eval_mul]; exact hQ y) x
 refine root_desc (g := g) (W := subC R (derC Q)) hn (fun x => ?_) (syn g s).length 1 [-s, 1] (syn g s) (Nat.le_refl _) (Nat.le_refl _) ⟨y, fun e0 => hy (by rw [e y, e0, Rat.mul_zero])⟩ (lin_ne s) (fun x => by rw [ev_lin, e x]) (fun x => ?_) (fun x => ?_)
 ·rw [eval_sub]
  show _ = _ * (_ - dEv Q x)
  have a := hR x
  rw [eval_derP, dp x] at a
  grind
 ·rw [← dEv_mul]
  exact dEv_ext (eqv_of_eval fun z => by rw [eval_mul, ev_lin]; exact e z) x
 ·have d2 : dEv [-s, 1] x = 1 := by rw [dEv_cons, dEv_cons, dEv_nil]; simp only [evalP]; grind
  have e4 : ((1 : Nat) : Rat) = 1 := rfl
  rw [d2, ev_lin, e4]
def ded : List Rat → List Rat × List Rat
 | [] => ([], [])
 | r :: L => if r ∈ (ded L).1 then ((ded L).1, r :: (ded L).2) else (r :: (ded L).1, (ded L).2)
theorem ded_mem : ∀ (L : List Rat) (x : Rat), x ∈ (ded L).1 ↔ x ∈ L
 | [], x => by simp [ded]
 | r :: L, x => by
  have ih := ded_mem L
  rw [ded]
  split
  ·rename_i h
   rw [ih x, List.mem_cons]
   exact ⟨.inr, fun h2 => h2.elim (fun e => by rw [e]; exact (ih r).1 h) id⟩
  ·rw [List.mem_cons, List.mem_cons, ih x]
theorem ded_nodup : ∀ L : List Rat, (ded L).1.Nodup
 | [] => by simp [ded]
 | r :: L => by
  rw [ded]
  split
  ·exact ded_nodup L
  ·rename_i h
   exact List.nodup_cons.2 ⟨h, ded_nodup L⟩
theorem ded_rest : ∀ (L : List Rat) (x : Rat), x ∈ (ded L).2 → x ∈ (ded L).1
 | [], x, h => by simp [ded] at h
 | r :: L, x, h => by
  have ih := ded_rest L x
  rw [ded] at h ⊢
  split at h
  ·rename_i hr
   rw [if_pos hr]
   rcases List.mem_cons.1 h with rfl | h
   ·exact hr
   ·exact ih h
  ·rename_i hr
   rw [if_neg hr]
   exact List.mem_cons_of_mem _ (ih h)
theorem ded_prod : ∀ (L : List Rat) (x : Rat), prodV L x = prodV (ded L).1 x * prodV (ded L).2 x
 | [], x => by show (1 : Rat) = 1 * 1; rw [Rat.one_mul]
 | r :: L, x => by
  have ih := ded_prod L x
  rw [ded]
  have e : prodV (r :: L) x = (x - r) * prodV L x := rfl
  rw [e, ih]
  split
  ·show _ = _ * ((x - r) * _); grind
  ·show _ = (x - r) * _ * _; grind
theorem same_side {x y t : Rat} (hxy : x < y) (h : ¬ (x ≤ t ∧ t ≤ y)) : 0 < (x - t) * (y - t) ∧ ((t ≤ y) ↔ (t ≤ x)) := by
 by_cases h1 : t < x
 ·exact ⟨Rat.mul_pos (by grind) (by grind), by constructor <;> intro <;> grind⟩
 ·have h2 : y < t := by grind
  have h3 : 0 < (t - x) * (t - y) := Rat.mul_pos (by grind) (by grind)
  exact ⟨by grind, by constructor <;> intro <;> grind⟩
theorem pos_cases {a b : Rat} (h : 0 < a * b) : (0 < a ∧ 0 < b) ∨ (a < 0 ∧ b < 0) := by
 by_cases ha : 0 < a
 ·left
  refine ⟨ha, ?_⟩
  refine Rat.not_le.1 fun hb => ?_
  have := Rat.mul_nonneg (Rat.le_of_lt ha) (show 0 ≤ -b by grind)
  grind
 ·right
  have ha2 : a < 0 := by
   by_cases e : a = 0
   ·subst e; rw [Rat.zero_mul] at h; exact absurd h (by decide)
   ·grind
  refine ⟨ha2, ?_⟩
  refine Rat.not_le.1 fun hb => ?_
  have := Rat.mul_nonneg (show 0 ≤ -a by grind) hb
  grind
theorem sq_nonneg (t : Rat) : 0 ≤ t * t := by
 by_cases h : 0 ≤ t
 ·exact Rat.mul_nonneg h h
 ·have := Rat.mul_nonneg (show 0 ≤ -t by grind) (show 0 ≤ -t by grind)
  grind
def isE (e : List Rat) : Prop := e = [1] ∨ e = [3, 1, 1]
theorem ev_quad (x : Rat) : evalP [3, 1, 1] x = 3 + x + x * x := by simp only [evalP]; grind
theorem isE.pos {e : List Rat} (h : isE e) (x : Rat) : 0 < evalP e x := by
 rcases h with rfl | rfl
 ·rw [ev_one]; decide
 ·rw [ev_quad]
  have := sq_nonneg (x + 1 / 2)
  grind
theorem isE.tr {e : List Rat} (h : isE e) : Tr e ∧ e ≠ [] ∧ lead e = 1 ∧ e.length ≤ 3 := by
 rcases h with rfl | rfl
 ·exact ⟨fun _ => by decide +kernel, by simp, rfl, by decide⟩
 ·exact ⟨fun _ => by decide +kernel, by simp, rfl, by decide⟩
theorem isE.ht {e : List Rat} (h : isE e) : HtP 2 e := by
 have l1 : ln 1 < 2 := by rw [ln_one]; decide
 have l0 : ln 0 < 2 := by rw [ln_zero]; decide
 have l3 : ln 3 < 2 := by unfold ln; rw [limbs_small (by decide) (by decide)]; decide
 rcases h with rfl | rfl
 ·exact ⟨1, fun i => match i with | 0 => 1 | _ + 1 => 0, by decide, l1, fun i => match i with
   | 0 => ⟨l1, by decide +kernel⟩
   | i + 1 => ⟨l0, (Rat.zero_divInt 1).symm⟩⟩
 ·exact ⟨1, fun i => match i with | 0 => 3 | 1 => 1 | 2 => 1 | _ + 3 => 0, by decide, l1, fun i => match i with
   | 0 => ⟨l3, by decide +kernel⟩
   | 1 => ⟨l1, by decide +kernel⟩
   | 2 => ⟨l1, by decide +kernel⟩
   | i + 3 => ⟨l0, (Rat.zero_divInt 1).symm⟩⟩
theorem E_split {w f q : List Rat} (tw : Tr w) (hq : isE q) (h : ∀ x, evalP w x * evalP f x = evalP q x) : ∃ (c : Rat) (e e' : List Rat), c ≠ 0 ∧ isE e ∧ isE e' ∧ w = smul c e ∧ ∀ x, c * evalP f x = evalP e' x := by
 have smul1 : ∀ c : Rat, [c] = smul c [1] := fun c => by show [c] = [c * 1]; rw [Rat.mul_one]
 have evc : ∀ c x : Rat, evalP [c] x = c := fun c x => by simp only [evalP]; grind
 have w0 : w ≠ [] := fun e => by
  have := h 0
  rw [e] at this
  have hp := hq.pos 0
  rw [← this] at hp
  have : evalP [] 0 * evalP f 0 = 0 := Rat.zero_mul _
  rw [this] at hp
  exact absurd hp (by decide)
 have f0 : trimP f ≠ [] := fun e => by
  have := h 0
  rw [← eval_trim f, e] at this
  have hp := hq.pos 0
  rw [← this] at hp
  have : evalP w 0 * evalP [] 0 = 0 := Rat.mul_zero _
  rw [this] at hp
  exact absurd hp (by decide)
 obtain ⟨q1, q2, q3, q4⟩ := hq.tr
 have e1 : mulT w (trimP f) = q := (tr_mulT _ _).ext q1 fun i => by
  unfold mulT
  rw [cf_trim]
  exact eqv_of_eval (fun x => by rw [eval_mul, eval_trim, h x]) i
 have l1 := (mulT_len tw (tr_trim f) w0 f0).1
 rw [e1] at l1
 have lw := ne_len w0
 have lf := ne_len f0
 by_cases c1 : w.length = 1
 ·match w, c1 with
  | [c], _ =>
   have c0 : c ≠ 0 := fun e => tw (by simp) (by rw [e]; rfl)
   exact ⟨c, [1], q, c0, .inl rfl, hq, smul1 c, fun x => by rw [← h x, evc]⟩
 ·rcases hq with rfl | rfl
  ·exfalso; simp at l1; omega
  ·by_cases c2 : w.length = 2
   ·exfalso
    match w, c2 with
    | [a, b], _ =>
     have b0 : b ≠ 0 := fun e => tw (by simp) (by rw [e]; rfl)
     have e := h (-a / b)
     have hb : -a / b * b = -a := div_mul_cancel' b0
     have ew : evalP [a, b] (-a / b) = 0 := by simp only [evalP]; grind
     rw [ew, Rat.zero_mul] at e
     have hp := isE.pos (e := [3, 1, 1]) (.inr rfl) (-a / b)
     rw [← e] at hp
     exact absurd hp (by decide)
   ·have f1 : (trimP f).length = 1 := by simp at l1; omega
    obtain ⟨d, hd⟩ : ∃ d, trimP f = [d] := by
     match trimP f, f1 with
     | [d], _ => exact ⟨d, rfl⟩
    have d0 : d ≠ 0 := fun e => by
     have := tr_trim f f0
     rw [hd, e] at this
     exact this rfl
    have ef : ∀ x, evalP f x = d := fun x => by rw [← eval_trim, hd, evc]
    have dd : d * (1 / d) = 1 := by rw [Rat.div_def, Rat.one_mul]; exact Rat.mul_inv_cancel _ d0
    have c0 : (1 / d : Rat) ≠ 0 := fun e => by rw [e, Rat.mul_zero] at dd; exact absurd dd (by decide)
    refine ⟨1 / d, [3, 1, 1], [1], c0, .inr rfl, .inl rfl, ?_, fun x => by rw [ef, ev_one, Rat.mul_comm]; exact dd⟩
    refine tw.ext (tr_smul c0 q1) (eqv_of_eval fun x => ?_)
    rw [eval_smul, ← h x, ef]
    grind
def mP (S : List Rat) : List Rat := trimP (prodP S)
theorem ev_mP (S : List Rat) (x : Rat) : evalP (mP S) x = prodV S x := by unfold mP; rw [eval_trim, ev_prod]
theorem tr_lin (s : Rat) : Tr [-s, 1] := fun _ => by show (1 : Rat) ≠ 0; decide
theorem mP_cons (s : Rat) (S : List Rat) : mP (s :: S) = mulT [-s, 1] (mP S) := trim_ext (eqv_of_eval fun x => by rw [eval_mul, ev_mP, ev_prod, ev_lin]; rfl)
theorem mP_tr : ∀ S : List Rat, Tr (mP S) ∧ mP S ≠ [] ∧ lead (mP S) = 1 ∧ (mP S).length = S.length + 1
 | [] => by
  have : mP [] = [1] := trim_of (fun _ => by decide +kernel)
  rw [this]
  exact ⟨fun _ => by decide +kernel, by simp, rfl, rfl⟩
 | s :: S => by
  obtain ⟨h1, h2, h3, h4⟩ := mP_tr S
  have hl := mulT_len (tr_lin s) h1 (by simp) h2
  rw [mP_cons]
  refine ⟨tr_mulT _ _, mulT_ne (tr_lin s) h1 (by simp) h2, ?_, ?_⟩
  ·rw [hl.2, h3, Rat.mul_one]; rfl
  ·rw [hl.1, h4]; simp; omega
theorem mE_len {S e : List Rat} (he : isE e) : (mulT (mP S) e).length ≤ S.length + 3 ∧ mulT (mP S) e ≠ [] ∧ Tr (mulT (mP S) e) ∧ lead (mulT (mP S) e) = 1 := by
 obtain ⟨h1, h2, h3, h4⟩ := mP_tr S
 obtain ⟨k1, k2, k3, k4⟩ := he.tr
 have hl := mulT_len h1 k1 h2 k2
 refine ⟨by rw [hl.1, h4]; omega, mulT_ne h1 k1 h2 k2, tr_mulT _ _, by rw [hl.2, h3, k3, Rat.one_mul]⟩
theorem ev_mE (S e : List Rat) (x : Rat) : evalP (mulT (mP S) e) x = prodV S x * evalP e x := by unfold mulT; rw [eval_trim, eval_mul, ev_mP]
theorem quot_eval {p : List Rat} (tp : Tr p) (p0 : p ≠ []) (x : Rat) : evalP p x = evalP (divP p (gcdP p (derP p))).1 x * evalP (gcdP p (derP p)) x := by
 have td : Tr (derP p) := tr_trim _
 obtain ⟨g1, g2⟩ := gcdP_tr tp td
 obtain ⟨g3, g4⟩ := g2 (.inl p0)
 have hr := rem_of_dvd tp g1 g3 (gcdP_dvd tp td).1
 have hs := eval_ext x (divP_spec tp g1 g3).2.2.2
 rw [eval_add, eval_mul, show (divP p (gcdP p (derP p))).2 = [] from hr] at hs
 have e0 : evalP [] x = 0 := rfl
 rw [e0, Rat.add_zero] at hs
 exact hs.symm
theorem quot_bez {p : List Rat} (tp : Tr p) (p0 : p ≠ []) : Bez (divP p (gcdP p (derP p))).1 (derP (divP p (gcdP p (derP p))).1) := by
 have td : Tr (derP p) := tr_trim _
 obtain ⟨g1, g2⟩ := gcdP_tr tp td
 obtain ⟨g3, g4⟩ := g2 (.inl p0)
 exact sqf tp p0 (divP_spec tp g1 g3).1 (quot_eval tp p0)
theorem known {L q p : List Rat} (hq : isE q) (hp : p = mulT (mP L) q) : ∃ e e' : List Rat, isE e ∧ isE e' ∧ (divP p (gcdP p (derP p))).1 = mulT (mP (ded L).1) e ∧ gcdP p (derP p) = mulT (mP (ded L).2) e' := by
 obtain ⟨k1, k2, k3, k4⟩ := mE_len (S := L) hq
 rw [← hp] at k1 k2 k3 k4
 have ep : ∀ x, evalP p x = prodV L x * evalP q x := fun x => by rw [hp, ev_mE]
 have hQ := quot_eval k3 k2
 obtain ⟨u, v, hb⟩ := quot_bez k3 k2
 have td : Tr (derP p) := tr_trim _
 obtain ⟨g1, g2⟩ := gcdP_tr k3 td
 obtain ⟨g3, g4⟩ := g2 (.inl k2)
 have tQ := (divP_spec k3 g1 g3).1
 have keep : ∀ s ∈ (ded L).1, evalP (divP p (gcdP p (derP p))).1 s = 0 := fun s hs => root_keep k3 k2 hQ (by rw [ep, prod_root ((ded_mem L s).1 hs), Rat.zero_mul])
 generalize gcdP p (derP p) = g at *
 generalize (divP p g).1 = Q at *
 obtain ⟨w0, hw0⟩ := factor (ded_nodup L) keep
 obtain ⟨w, hw, tw⟩ : ∃ w : List Rat, (∀ x, evalP Q x = prodV (ded L).1 x * evalP w x) ∧ Tr w := ⟨trimP w0, fun x => by rw [eval_trim]; exact hw0 x, tr_trim _⟩
 have hr : ∀ r ∈ (ded L).2, evalP w r ≠ 0 := fun r hr e => by
  have hrS := ded_rest L r hr
  have d : dEv Q r = dEv (prodP (ded L).1) r * evalP w r + evalP (prodP (ded L).1) r * dEv w r := by
   rw [← dEv_mul]
   exact dEv_ext (eqv_of_eval fun x => by rw [eval_mul, ev_prod]; exact hw x) r
  rw [e, ev_prod, prod_root hrS, Rat.mul_zero, Rat.zero_mul, Rat.add_zero] at d
  have := hb r
  rw [eval_derP, d, hw r, prod_root hrS, Rat.zero_mul, Rat.mul_zero, Rat.mul_zero] at this
  exact absurd this (by decide +kernel)
 have hc := cancel (a := prodP (ded L).1) (b := mulC w g) (c := mulC (prodP (ded L).2) q) (prod_exists _) fun x => by
  rw [eval_mul, eval_mul, ev_prod, ev_prod]
  have := hQ x
  rw [ep x, hw x, ded_prod L x] at this
  grind
 obtain ⟨f, hf1, hf2⟩ := strip (R := (ded L).2) (w := w) (g := g) (q := q) hr fun x => by
  have := hc x
  rwa [eval_mul, eval_mul, ev_prod] at this
 obtain ⟨c, e, e', c0, he, he', ew, ef⟩ := E_split tw hq hf1
 obtain ⟨m1, m2, m3, m4⟩ := mE_len (S := (ded L).2) he'
 have eg : smul c g = mulT (mP (ded L).2) e' := (tr_smul c0 g1).ext m3 (eqv_of_eval fun x => by rw [eval_smul, ev_mE, hf2 x, ← ef x]; grind)
 have c1 : c = 1 := by
  have := lead_smul c g
  rw [eg, m4, g4, Rat.mul_one] at this
  exact this.symm
 subst c1
 rw [smul_one] at eg ew
 refine ⟨e, e', he, he', ?_, eg⟩
 exact tQ.ext (mE_len he).2.2.1 (eqv_of_eval fun x => by rw [hw x, ev_mE, ew])
end Go.Vw
