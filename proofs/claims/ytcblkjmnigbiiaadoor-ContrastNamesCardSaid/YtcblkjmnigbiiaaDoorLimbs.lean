/-
  Natural numbers as lists of limbs of 32 bits: plain arithmetic. Conditions: as each says.
-/
set_option linter.unusedVariables false
set_option linter.unusedSimpArgs false
namespace Go.Vw

/-- 2 to the power of 32. -/
abbrev B : Nat := 4294967296

def val : List Nat → Nat
  | [] => 0
  | x :: l => x + B * val l

def WF (l : List Nat) : Prop := ∀ x ∈ l, x < B

def limbs (n : Nat) : List Nat := if h : n = 0 then [] else n % B :: limbs (n / B)
termination_by n
decreasing_by exact Nat.div_lt_self (Nat.pos_of_ne_zero h) (by decide)

theorem limbs_zero : limbs 0 = [] := by unfold limbs; simp
theorem limbs_pos {n : Nat} (h : n ≠ 0) : limbs n = n % B :: limbs (n / B) := by
  rw [limbs]; simp [h]

theorem val_limbs (n : Nat) : val (limbs n) = n := by
  induction n using Nat.strongRecOn with
  | _ n ih =>
    by_cases h : n = 0
    · subst h; rw [limbs_zero]; rfl
    · rw [limbs_pos h, val, ih _ (Nat.div_lt_self (Nat.pos_of_ne_zero h) (by decide))]
      exact Nat.mod_add_div n B

theorem wf_limbs (n : Nat) : WF (limbs n) := by
  induction n using Nat.strongRecOn with
  | _ n ih =>
    by_cases h : n = 0
    · subst h; rw [limbs_zero]; intro x hx; cases hx
    · rw [limbs_pos h]
      intro x hx
      rcases List.mem_cons.1 hx with rfl | hx
      · exact Nat.mod_lt _ (by decide)
      · exact ih _ (Nat.div_lt_self (Nat.pos_of_ne_zero h) (by decide)) x hx

theorem WF.tail {x : Nat} {l : List Nat} (h : WF (x :: l)) : WF l := fun y hy => h y (by simp [hy])
theorem WF.head {x : Nat} {l : List Nat} (h : WF (x :: l)) : x < B := h x (by simp)
theorem WF.nil : WF [] := fun x hx => by cases hx
theorem WF.append {a b : List Nat} (ha : WF a) (hb : WF b) : WF (a ++ b) := fun x hx => by
  rcases List.mem_append.1 hx with h | h
  · exact ha x h
  · exact hb x h
theorem WF.take {a : List Nat} (ha : WF a) (n : Nat) : WF (a.take n) := fun x hx => ha x (List.mem_of_mem_take hx)
theorem WF.drop {a : List Nat} (ha : WF a) (n : Nat) : WF (a.drop n) := fun x hx => ha x (List.mem_of_mem_drop hx)
theorem WF.getD {a : List Nat} (ha : WF a) (i : Nat) : a.getD i 0 < B := by
  by_cases h : i < a.length
  · simp only [List.getD, List.getElem?_eq_getElem h, Option.getD_some]; exact ha _ (List.getElem_mem h)
  · simp [List.getD, List.getElem?_eq_none (Nat.le_of_not_lt h)]

theorem val_append (a b : List Nat) : val (a ++ b) = val a + B ^ a.length * val b := by
  induction a with
  | nil => simp [val]
  | cons x a ih =>
    simp only [List.cons_append, val, ih, List.length_cons, Nat.pow_succ]
    rw [Nat.mul_add, Nat.mul_comm (B ^ a.length) B, Nat.mul_assoc, Nat.add_assoc]

theorem val_lt {l : List Nat} (h : WF l) : val l < B ^ l.length := by
  induction l with
  | nil => simp [val]
  | cons x l ih =>
    have h1 := ih h.tail
    have h2 := h.head
    simp only [val, List.length_cons, Nat.pow_succ]
    calc x + B * val l < B + B * val l := by omega
      _ = B * (val l + 1) := by rw [Nat.mul_add]; omega
      _ ≤ B * B ^ l.length := Nat.mul_le_mul_left _ h1
      _ = B ^ l.length * B := Nat.mul_comm _ _

/-- No limb 0 at the end. -/
def valid (l : List Nat) : Bool := l.isEmpty || l.getD (l.length - 1) 0 != 0

/-- Without zeros at the end. -/
def trimL : List Nat → List Nat
  | [] => []
  | x :: l => match trimL l with
    | [] => if x = 0 then [] else [x]
    | y :: r => x :: y :: r

theorem trimL_val (l : List Nat) : val (trimL l) = val l := by
  induction l with
  | nil => rfl
  | cons x l ih =>
    simp only [trimL]
    cases h : trimL l with
    | nil =>
      rw [h] at ih
      simp only [val] at ih ⊢
      split
      · rename_i hx; simp [hx, val, ← ih]
      · simp [val, ← ih]
    | cons y r =>
      rw [h] at ih
      simp only [val] at ih ⊢
      rw [ih]

theorem trimL_limbs {l : List Nat} (h : WF l) : trimL l = limbs (val l) := by
  induction l with
  | nil => simp [trimL, val, limbs_zero]
  | cons x l ih =>
    have ih := ih h.tail
    have hx := h.head
    have hv := trimL_val l
    have e1 : (x + B * val l) % B = x := by rw [Nat.add_mul_mod_self_left]; exact Nat.mod_eq_of_lt hx
    have e2 : (x + B * val l) / B = val l := by rw [Nat.add_mul_div_left _ _ (by decide)]; simp [Nat.div_eq_of_lt hx]
    simp only [trimL, val]
    cases ht : trimL l with
    | nil =>
      rw [ht] at hv
      simp only [val] at hv
      rw [← hv]
      by_cases h0 : x = 0
      · simp [h0, limbs_zero]
      · have hx' : x % B = x := Nat.mod_eq_of_lt hx
        have hx2 : x / B = 0 := Nat.div_eq_of_lt hx
        rw [Nat.mul_zero, Nat.add_zero, limbs_pos h0, hx', hx2, limbs_zero]
        simp [h0]
    | cons y r =>
      rw [ht] at ih
      have hne : val l ≠ 0 := fun h0 => by rw [h0, limbs_zero] at ih; cases ih
      rw [limbs_pos (by have : B * val l ≠ 0 := Nat.mul_ne_zero (by decide) hne
                        omega), e1, e2, ← ih]

theorem trimL_limbs_self (n : Nat) : trimL (limbs n) = limbs n := by rw [trimL_limbs (wf_limbs n), val_limbs]

theorem trimL_snoc (l : List Nat) (x : Nat) : trimL (l ++ [x]) = if x = 0 then trimL l else l ++ [x] := by
  induction l with
  | nil => simp [trimL]
  | cons y l ih =>
    simp only [List.cons_append, trimL, ih]
    by_cases h0 : x = 0
    · simp only [h0, if_true]
    · simp only [h0, if_false]
      cases l <;> simp

theorem valid_snoc (l : List Nat) (x : Nat) : valid (l ++ [x]) = (x != 0) := by
  simp [valid, List.getD]

theorem list_snoc {l : List Nat} (h : l ≠ []) : l = l.take (l.length - 1) ++ [l.getD (l.length - 1) 0] := by
  have hp : l.length ≠ 0 := fun e => h (List.length_eq_zero_iff.1 e)
  have h1 : l.length - 1 < l.length := by omega
  conv => lhs; rw [← List.take_append_drop (l.length - 1) l]
  congr 1
  rw [List.drop_eq_getElem_cons h1]
  have h2 : l.length - 1 + 1 = l.length := by omega
  simp [h2, List.getD, h1]

theorem valid_trim {l : List Nat} (h : valid l = true) : trimL l = l := by
  by_cases hn : l = []
  · subst hn; rfl
  · rw [list_snoc hn, valid_snoc] at h
    rw [list_snoc hn, trimL_snoc]
    simp only [bne_iff_ne] at h
    rw [if_neg h]

theorem valid_limbs (n : Nat) : valid (limbs n) = true := by
  by_cases hn : limbs n = []
  · rw [hn]; rfl
  · have h := trimL_limbs_self n
    rw [list_snoc hn, trimL_snoc] at h
    rw [list_snoc hn, valid_snoc]
    simp only [bne_iff_ne]
    intro h0
    rw [if_pos h0] at h
    have hlen := congrArg List.length h
    have hle : ∀ l : List Nat, (trimL l).length ≤ l.length := by
      intro l
      induction l with
      | nil => simp [trimL]
      | cons x l ih =>
        simp only [trimL]
        cases ht : trimL l with
        | nil => by_cases h0 : x = 0 <;> simp [h0]
        | cons y r => rw [ht] at ih; simpa using ih
    have := hle ((limbs n).take ((limbs n).length - 1))
    rw [hlen] at this
    simp at this
    have hp : (limbs n).length ≠ 0 := fun e => hn (List.length_eq_zero_iff.1 e)
    omega

/-- The limbs that count. -/
def takeL (l : List Nat) : List Nat := if valid l then l else []
/-- The number that a list of limbs stands for: 0 if it is not valid. -/
def nv (l : List Nat) : Nat := val (takeL l)

theorem takeL_limbs {l : List Nat} (h : WF l) : takeL l = limbs (nv l) := by
  unfold nv takeL
  cases hv : valid l with
  | true => simp only [if_true]; rw [← trimL_limbs h, valid_trim hv]
  | false => simp [val, limbs_zero]
theorem takeL_of (n : Nat) : takeL (limbs n) = limbs n := by simp [takeL, valid_limbs]
theorem nv_limbs (n : Nat) : nv (limbs n) = n := by rw [nv, takeL_of, val_limbs]

theorem length_limbs_le {n k : Nat} (h : n < B ^ k) : (limbs n).length ≤ k := by
  induction k generalizing n with
  | zero => have : n = 0 := by simpa using h
            subst this; simp [limbs_zero]
  | succ k ih =>
    by_cases h0 : n = 0
    · subst h0; simp [limbs_zero]
    · rw [limbs_pos h0]
      have := ih (n := n / B) (Nat.div_lt_of_lt_mul (by rw [Nat.pow_succ, Nat.mul_comm] at h; exact h))
      simpa using this
theorem lt_pow_length (n : Nat) : n < B ^ (limbs n).length := by
  have := val_lt (wf_limbs n)
  rwa [val_limbs] at this
theorem limbs_eq_nil {n : Nat} : limbs n = [] ↔ n = 0 := by
  constructor
  · intro h
    have := val_limbs n
    rw [h] at this; simpa [val] using this.symm
  · intro h; subst h; exact limbs_zero
theorem limbs_inj {m n : Nat} (h : limbs m = limbs n) : m = n := by rw [← val_limbs m, ← val_limbs n, h]
end Go.Vw
