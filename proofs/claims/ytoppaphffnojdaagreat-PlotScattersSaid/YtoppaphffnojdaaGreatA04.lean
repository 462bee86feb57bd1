/-
  Contracts of functions of the program, and the layer that they are walked with: Tab Limbs LimbsB VP VGo R01 LimbsC Nats N01 NatsB R02 R03 Ints. Conditions: as each says.
-/
import Derived.Test.YtoppaphffnojdaaGreatProg
import Derived.KernelRfl
import Derived.Test.YtoppaphffnojdaaGreatA03
set_option linter.unnecessarySimpa false
/-
  The types of the translation, as a table, and that the program has them so. Conditions: none.
-/
set_option maxRecDepth 100000
namespace Go.Proofs.YtoppaphffnojdaaGreat
open Go.Vw
@[reducible] def fT (a b : Array TypeId) : Option TyD := some ⟨.func a b false, 1, 8, .nilFunc⟩
@[reducible] def sT (a : TypeId) : Option TyD := some ⟨.slice a, 1, 24, .slice none 0 0⟩
@[reducible] def pT (a : TypeId) : Option TyD := some ⟨.pointer a, 1, 8, .pointer none⟩
def T : TypeId → Option TyD
  | 1 => fT #[] #[]
  | 2 => some ⟨.int .i64, 1, 8, .int .i64 0⟩
  | 3 => some ⟨.int .i64, 1, 8, .int .i64 0⟩
  | 4 => some ⟨.bool, 1, 1, .bool false⟩
  | 5 => some ⟨.int .u8, 1, 1, .int .u8 0⟩
  | 6 => some ⟨.int .u8, 1, 1, .int .u8 0⟩
  | 9 => some ⟨.string, 1, 16, .string .empty⟩
  | 10 => some ⟨.string, 1, 16, .string .empty⟩
  | 11 => some ⟨.string, 1, 16, .string .empty⟩
  | 12 => some ⟨.int .u64, 1, 8, .int .u64 0⟩
  | 15 => pT 154
  | 16 => pT 157
  | 17 => pT 166
  | 21 => some ⟨.int .i32, 1, 4, .int .i32 0⟩
  | 22 => sT 3
  | 23 => sT 56
  | 24 => some ⟨.struct #[⟨ "Neg", 4, 0, false, "", "", 0⟩, ⟨ "Mag", 23, 1, false, "", "", 8⟩], 2, 32, .agg #[.bool false, .slice none 0 0]⟩
  | 25 => some ⟨.struct #[⟨ "Neg", 4, 0, false, "", "", 0⟩, ⟨ "Mag", 23, 1, false, "", "", 8⟩], 2, 32, .agg #[.bool false, .slice none 0 0]⟩
  | 26 => some ⟨.struct #[⟨ "Num", 25, 0, false, "", "", 0⟩, ⟨ "Den", 23, 2, false, "", "", 32⟩], 3, 56, .agg #[.bool false, .slice none 0 0, .slice none 0 0]⟩
  | 27 => some ⟨.struct #[⟨ "Num", 25, 0, false, "", "", 0⟩, ⟨ "Den", 23, 2, false, "", "", 32⟩], 3, 56, .agg #[.bool false, .slice none 0 0, .slice none 0 0]⟩
  | 28 => fT #[27] #[4]
  | 29 => fT #[] #[4]
  | 30 => pT 55
  | 31 => fT #[22] #[30]
  | 32 => fT #[] #[27]
  | 33 => fT #[3] #[4]
  | 34 => some ⟨.func #[22] #[3] true, 1, 8, .nilFunc⟩
  | 36 => fT #[27, 27, 27, 3] #[3, 4]
  | 37 => fT #[22, 27, 27, 27, 3] #[4]
  | 38 => sT 27
  | 39 => fT #[3] #[38]
  | 40 => fT #[3] #[27]
  | 41 => fT #[3] #[3]
  | 42 => some ⟨.int .i64, 1, 8, .int .i64 0⟩
  | 44 => fT #[38, 27, 27, 3] #[9, 42]
  | 45 => fT #[27, 27] #[3]
  | 46 => fT #[22] #[4]
  | 47 => fT #[38, 3] #[4]
  | 48 => fT #[38, 38, 3, 3] #[9, 42]
  | 49 => fT #[22, 38, 38, 3, 3] #[4]
  | 50 => fT #[3, 3] #[27]
  | 51 => fT #[27, 27, 27] #[27]
  | 52 => fT #[38, 27, 27, 3, 3] #[4]
  | 53 => fT #[22, 38, 27, 27, 3, 3] #[4]
  | 54 => some ⟨.struct #[⟨ "l", 22, 0, false, "", "robuststats/robuststatsworld", 0⟩, ⟨ "at", 3, 1, false, "", "robuststats/robuststatsworld", 24⟩], 2, 32, .agg #[.slice none 0 0, .int .i64 0]⟩
  | 55 => some ⟨.struct #[⟨ "l", 22, 0, false, "", "robuststats/robuststatsworld", 0⟩, ⟨ "at", 3, 1, false, "", "robuststats/robuststatsworld", 24⟩], 2, 32, .agg #[.slice none 0 0, .int .i64 0]⟩
  | 56 => some ⟨.int .u32, 1, 4, .int .u32 0⟩
  | 57 => fT #[27, 27] #[4]
  | 58 => fT #[27, 27] #[27]
  | 59 => fT #[25] #[3, 4]
  | 60 => fT #[27] #[25]
  | 61 => fT #[3] #[25]
  | 62 => fT #[3, 3] #[3]
  | 63 => fT #[38, 27, 27, 3, 3] #[42]
  | 64 => sT 5
  | 65 => fT #[3] #[64]
  | 66 => fT #[38, 27, 27, 3] #[22]
  | 67 => fT #[3] #[5]
  | 68 => fT #[27] #[3]
  | 70 => fT #[38] #[27, 27]
  | 71 => sT 22
  | 72 => fT #[38, 3] #[22]
  | 73 => fT #[22] #[9]
  | 74 => fT #[25, 25] #[27]
  | 75 => fT #[3, 3, 5] #[]
  | 77 => fT #[38, 27] #[27, 27, 42]
  | 78 => fT #[38] #[27, 27, 42]
  | 79 => fT #[38, 27, 27, 3, 3] #[9, 42]
  | 81 => fT #[27, 27] #[27, 42]
  | 82 => fT #[27] #[27]
  | 83 => fT #[25] #[25]
  | 84 => some ⟨.int .u64, 1, 8, .int .u64 0⟩
  | 86 => fT #[23] #[84, 4]
  | 88 => fT #[25, 25] #[25, 25, 4]
  | 89 => fT #[27] #[23]
  | 90 => fT #[25, 25] #[25]
  | 91 => fT #[25, 23] #[27]
  | 92 => fT #[23, 23] #[23]
  | 93 => fT #[4, 23] #[25]
  | 94 => fT #[84] #[23]
  | 95 => fT #[25] #[3]
  | 96 => fT #[38] #[38]
  | 97 => fT #[25, 25] #[23]
  | 98 => fT #[23] #[4]
  | 99 => fT #[38, 3] #[42]
  | 100 => fT #[64, 27, 27, 27, 27, 5] #[]
  | 101 => fT #[25, 25] #[3]
  | 102 => fT #[25, 23] #[25]
  | 103 => fT #[25, 25] #[27, 42]
  | 104 => fT #[25] #[4]
  | 105 => fT #[23] #[23]
  | 107 => fT #[23, 23] #[23, 23, 4]
  | 109 => fT #[23, 23] #[23, 4]
  | 110 => fT #[] #[23]
  | 111 => fT #[23, 23] #[3]
  | 112 => some ⟨.int .u64, 1, 8, .int .u64 0⟩
  | 113 => fT #[23, 3] #[84]
  | 114 => fT #[38, 45] #[]
  | 116 => fT #[56, 56, 56] #[56, 56]
  | 118 => fT #[23, 56] #[23, 56]
  | 120 => fT #[23, 23] #[23, 23]
  | 121 => fT #[84, 84] #[84]
  | 122 => fT #[23, 56] #[23]
  | 123 => fT #[23, 3] #[56]
  | 124 => fT #[23, 56, 3] #[23]
  | 125 => fT #[38, 3, 3, 3, 45] #[]
  | 126 => fT #[112] #[3]
  | 127 => fT #[56] #[3]
  | 128 => fT #[23, 3] #[23]
  | 129 => fT #[56, 56, 56, 56, 56] #[84]
  | 130 => fT #[23, 23, 84] #[4]
  | 131 => fT #[23, 23] #[]
  | 132 => fT #[38, 3, 3, 45] #[]
  | 133 => some ⟨.int .i64, 1, 8, .int .i64 0⟩
  | 135 => fT #[38, 3, 3, 45] #[3, 133]
  | 136 => fT #[38, 3, 3, 45] #[4]
  | 137 => fT #[38, 3, 3, 3, 45] #[3]
  | 138 => fT #[38, 3, 3, 3, 45] #[3, 4]
  | 139 => fT #[84] #[3]
  | 142 => some ⟨.int .u64, 1, 8, .int .u64 0⟩
  | 143 => fT #[3] #[112]
  | 144 => fT #[] #[84]
  | 145 => fT #[38, 3, 146, 45] #[3]
  | 146 => pT 3
  | 147 => fT #[38, 3, 3, 3, 146, 45] #[3]
  | 148 => pT 142
  | 150 => fT #[38, 3, 3, 146, 45] #[3, 3]
  | 151 => pT 168
  | 152 => fT #[] #[9]
  | 155 => some ⟨.array 0 16, 0, 0, .agg #[]⟩
  | 158 => fT #[] #[3]
  | 159 => some ⟨.int .u8, 1, 1, .int .u8 0⟩
  | 160 => some ⟨.int .u8, 1, 1, .int .u8 0⟩
  | 161 => fT #[169, 169] #[4]
  | 162 => pT 5
  | 163 => some ⟨.int .i32, 1, 4, .int .i32 0⟩
  | 164 => some ⟨.int .i32, 1, 4, .int .i32 0⟩
  | 167 => some ⟨.struct #[⟨ "s", 9, 0, false, "", "errors", 0⟩], 1, 16, .agg #[.string .empty]⟩
  | 168 => some ⟨.struct #[⟨ "s", 9, 0, false, "", "errors", 0⟩], 1, 16, .agg #[.string .empty]⟩
  | _ => none
theorem tab : TabOk Tryz.prog T := by
  intro t d h
  unfold T at h
  split at h
  all_goals first | (cases h; done) | (cases h; exact TyOk.of (by kernel_rfl))
theorem mixed : Tryz.prog.follows .mixedOrders = true := by kernel_rfl
section
variable {X : Ctx} {Q : Exit → St → Prop} {s : St} {ops : List Oper}
theorem rgK (id n : Nat) (ks : List Nat) (h : awpR false X ops.toArray (ops.take n) (ops.drop n) Q (s.kills ks)) (hm : X.P.follows .mixedOrders = true := by exact mixed) (hok : ordOk false ops.toArray n = true := by kernel_rfl) (hak : allocKeys ops.toArray = ks := by kernel_rfl) (hK : (ks.all fun k => !(X.K.contains k)) = true := by kernel_rfl) : awp X (.region id ops.toArray true) Q s := awp_regE id n ks hm hok hak hK h
theorem rgX (id n : Nat) (ks : List Nat) (h : awpR true X ops.toArray (ops.take n) (ops.drop n) Q (s.kills ks)) (hm : X.P.follows .mixedOrders = true := by exact mixed) (hok : ordOk true ops.toArray n = true := by kernel_rfl) (hak : allocKeys ops.toArray = ks := by kernel_rfl) (hK : (ks.all fun k => !(X.K.contains k)) = true := by kernel_rfl) : awp X (.region id ops.toArray true) Q s := awp_regE id n ks hm hok hak hK h
theorem rg (id n : Nat) (h : awpR false X ops.toArray (ops.take n) (ops.drop n) Q s) (hm : X.P.follows .mixedOrders = true := by exact mixed) (hok : ordOk false ops.toArray n = true := by kernel_rfl) (hak : allocKeys ops.toArray = [] := by kernel_rfl) : awp X (.region id ops.toArray true) Q s := awp_reg id n hm hok hak h
end
end Go.Proofs.YtoppaphffnojdaaGreat

/-
  Natural numbers as lists of limbs of 32 bits: plain arithmetic. Conditions: as each says.
-/
set_option linter.unusedVariables false
set_option linter.unusedSimpArgs false
namespace Go.Vw

abbrev B : Nat := 4294967296

def val : List Nat → Nat
  | [] => 0
  | x :: l => x + B * val l

def WF (l : List Nat) : Prop := ∀ x ∈ l, x < B

def limbs (n : Nat) : List Nat := if h : n = 0 then [] else n % B :: limbs (n / B)
termination_by n
decreasing_by exact Nat.div_lt_self (Nat.pos_of_ne_zero h) (by decide)

theorem limbs_zero : limbs 0 = [] := by unfold limbs; simp
theorem limbs_pos {n : Nat} (h : n ≠ 0) : limbs n = n % B :: limbs (n / B) := by
  rw [limbs]; simp [h]

theorem val_limbs (n : Nat) : val (limbs n) = n := by
  induction n using Nat.strongRecOn with
  | _ n ih =>
    by_cases h : n = 0
    · subst h; rw [limbs_zero]; rfl
    · rw [limbs_pos h, val, ih _ (Nat.div_lt_self (Nat.pos_of_ne_zero h) (by decide))]
      exact Nat.mod_add_div n B

theorem wf_limbs (n : Nat) : WF (limbs n) := by
  induction n using Nat.strongRecOn with
  | _ n ih =>
    by_cases h : n = 0
    · subst h; rw [limbs_zero]; intro x hx; cases hx
    · rw [limbs_pos h]
      intro x hx
      rcases List.mem_cons.1 hx with rfl | hx
      · exact Nat.mod_lt _ (by decide)
      · exact ih _ (Nat.div_lt_self (Nat.pos_of_ne_zero h) (by decide)) x hx

theorem WF.tail {x : Nat} {l : List Nat} (h : WF (x :: l)) : WF l := fun y hy => h y (by simp [hy])
theorem WF.head {x : Nat} {l : List Nat} (h : WF (x :: l)) : x < B := h x (by simp)
theorem WF.nil : WF [] := fun x hx => by cases hx
theorem WF.append {a b : List Nat} (ha : WF a) (hb : WF b) : WF (a ++ b) := fun x hx => by
  rcases List.mem_append.1 hx with h | h
  · exact ha x h
  · exact hb x h
theorem WF.take {a : List Nat} (ha : WF a) (n : Nat) : WF (a.take n) := fun x hx => ha x (List.mem_of_mem_take hx)
theorem WF.drop {a : List Nat} (ha : WF a) (n : Nat) : WF (a.drop n) := fun x hx => ha x (List.mem_of_mem_drop hx)
theorem WF.getD {a : List Nat} (ha : WF a) (i : Nat) : a.getD i 0 < B := by
  by_cases h : i < a.length
  · simp only [List.getD, List.getElem?_eq_getElem h, Option.getD_some]; exact ha _ (List.getElem_mem h)
  · simp [List.getD, List.getElem?_eq_none (Nat.le_of_not_lt h)]

theorem val_append (a b : List Nat) : val (a ++ b) = val a + B ^ a.length * val b := by
  induction a with
  | nil => simp [val]
  | cons x a ih =>
    simp only [List.cons_append, val, ih, List.length_cons, Nat.pow_succ]
    rw [Nat.mul_add, Nat.mul_comm (B ^ a.length) B, Nat.mul_assoc, Nat.add_assoc]

theorem val_lt {l : List Nat} (h : WF l) : val l < B ^ l.length := by
  induction l with
  | nil => simp [val]
  | cons x l ih =>
    have h1 := ih h.tail
    have h2 := h.head
    simp only [val, List.length_cons, Nat.pow_succ]
    calc x + B * val l < B + B * val l := by omega
      _ = B * (val l + 1) := by rw [Nat.mul_add]; omega
      _ ≤ B * B ^ l.length := Nat.mul_le_mul_left _ h1
      _ = B ^ l.length * B := Nat.mul_comm _ _

def valid (l : List Nat) : Bool := l.isEmpty || l.getD (l.length - 1) 0 != 0

def trimL : List Nat → List Nat
  | [] => []
  | x :: l => match trimL l with
    | [] => if x = 0 then [] else [x]
    | y :: r => x :: y :: r

theorem trimL_val (l : List Nat) : val (trimL l) = val l := by
  induction l with
  | nil => rfl
  | cons x l ih =>
    simp only [trimL]
    cases h : trimL l with
    | nil =>
      rw [h] at ih
      simp only [val] at ih ⊢
      split
      · rename_i hx; simp [hx, val, ← ih]
      · simp [val, ← ih]
    | cons y r =>
      rw [h] at ih
      simp only [val] at ih ⊢
      rw [ih]

theorem trimL_limbs {l : List Nat} (h : WF l) : trimL l = limbs (val l) := by
  induction l with
  | nil => simp [trimL, val, limbs_zero]
  | cons x l ih =>
    have ih := ih h.tail
    have hx := h.head
    have hv := trimL_val l
    have e1 : (x + B * val l) % B = x := by rw [Nat.add_mul_mod_self_left]; exact Nat.mod_eq_of_lt hx
    have e2 : (x + B * val l) / B = val l := by rw [Nat.add_mul_div_left _ _ (by decide)]; simp [Nat.div_eq_of_lt hx]
    simp only [trimL, val]
    cases ht : trimL l with
    | nil =>
      rw [ht] at hv
      simp only [val] at hv
      rw [← hv]
      by_cases h0 : x = 0
      · simp [h0, limbs_zero]
      · have hx' : x % B = x := Nat.mod_eq_of_lt hx
        have hx2 : x / B = 0 := Nat.div_eq_of_lt hx
        rw [Nat.mul_zero, Nat.add_zero, limbs_pos h0, hx', hx2, limbs_zero]
        simp [h0]
    | cons y r =>
      rw [ht] at ih
      have hne : val l ≠ 0 := fun h0 => by rw [h0, limbs_zero] at ih; cases ih
      rw [limbs_pos (by have : B * val l ≠ 0 := Nat.mul_ne_zero (by decide) hne
                        omega), e1, e2, ← ih]

theorem trimL_limbs_self (n : Nat) : trimL (limbs n) = limbs n := by rw [trimL_limbs (wf_limbs n), val_limbs]

theorem trimL_snoc (l : List Nat) (x : Nat) : trimL (l ++ [x]) = if x = 0 then trimL l else l ++ [x] := by
  induction l with
  | nil => simp [trimL]
  | cons y l ih =>
    simp only [List.cons_append, trimL, ih]
    by_cases h0 : x = 0
    · simp only [h0, if_true]
    · simp only [h0, if_false]
      cases l <;> simp

theorem valid_snoc (l : List Nat) (x : Nat) : valid (l ++ [x]) = (x != 0) := by
  simp [valid, List.getD]

theorem list_snoc {l : List Nat} (h : l ≠ []) : l = l.take (l.length - 1) ++ [l.getD (l.length - 1) 0] := by
  have hp : l.length ≠ 0 := fun e => h (List.length_eq_zero_iff.1 e)
  have h1 : l.length - 1 < l.length := by omega
  conv => lhs; rw [← List.take_append_drop (l.length - 1) l]
  congr 1
  rw [List.drop_eq_getElem_cons h1]
  have h2 : l.length - 1 + 1 = l.length := by omega
  simp [h2, List.getD, h1]

theorem valid_trim {l : List Nat} (h : valid l = true) : trimL l = l := by
  by_cases hn : l = []
  · subst hn; rfl
  · rw [list_snoc hn, valid_snoc] at h
    rw [list_snoc hn, trimL_snoc]
    simp only [bne_iff_ne] at h
    rw [if_neg h]

theorem valid_limbs (n : Nat) : valid (limbs n) = true := by
  by_cases hn : limbs n = []
  · rw [hn]; rfl
  · have h := trimL_limbs_self n
    rw [list_snoc hn, trimL_snoc] at h
    rw [list_snoc hn, valid_snoc]
    simp only [bne_iff_ne]
    intro h0
    rw [if_pos h0] at h
    have hlen := congrArg List.length h
    have hle : ∀ l : List Nat, (trimL l).length ≤ l.length := by
      intro l
      induction l with
      | nil => simp [trimL]
      | cons x l ih =>
        simp only [trimL]
        cases ht : trimL l with
        | nil => by_cases h0 : x = 0 <;> simp [h0]
        | cons y r => rw [ht] at ih; simpa using ih
    have := hle ((limbs n).take ((limbs n).length - 1))
    rw [hlen] at this
    simp at this
    have hp : (limbs n).length ≠ 0 := fun e => hn (List.length_eq_zero_iff.1 e)
    omega

def takeL (l : List Nat) : List Nat := if valid l then l else []
def nv (l : List Nat) : Nat := val (takeL l)

theorem takeL_limbs {l : List Nat} (h : WF l) : takeL l = limbs (nv l) := by
  unfold nv takeL
  cases hv : valid l with
  | true => simp only [if_true]; rw [← trimL_limbs h, valid_trim hv]
  | false => simp [val, limbs_zero]
theorem takeL_of (n : Nat) : takeL (limbs n) = limbs n := by simp [takeL, valid_limbs]
theorem nv_limbs (n : Nat) : nv (limbs n) = n := by rw [nv, takeL_of, val_limbs]

theorem length_limbs_le {n k : Nat} (h : n < B ^ k) : (limbs n).length ≤ k := by
  induction k generalizing n with
  | zero => have : n = 0 := by simpa using h
            subst this; simp [limbs_zero]
  | succ k ih =>
    by_cases h0 : n = 0
    · subst h0; simp [limbs_zero]
    · rw [limbs_pos h0]
      have := ih (n := n / B) (Nat.div_lt_of_lt_mul (by rw [Nat.pow_succ, Nat.mul_comm] at h; exact h))
      simpa using this
theorem lt_pow_length (n : Nat) : n < B ^ (limbs n).length := by
  have := val_lt (wf_limbs n)
  rwa [val_limbs] at this
theorem limbs_eq_nil {n : Nat} : limbs n = [] ↔ n = 0 := by
  constructor
  · intro h
    have := val_limbs n
    rw [h] at this; simpa [val] using this.symm
  · intro h; subst h; exact limbs_zero
theorem limbs_inj {m n : Nat} (h : limbs m = limbs n) : m = n := by rw [← val_limbs m, ← val_limbs n, h]
end Go.Vw

/-
  Lists of limbs, more: digit by digit. Conditions: none.
-/
namespace Go.Vw

theorem val_take_succ (l : List Nat) (i : Nat) : val (l.take (i + 1)) = val (l.take i) + B ^ i * l.getD i 0 := by
  by_cases h : i < l.length
  · rw [List.take_add_one, val_append]
    simp [List.getD, h, val, Nat.min_eq_left (Nat.le_of_lt h)]
  · simp [List.getD, List.getElem?_eq_none (Nat.le_of_not_lt h), List.take_of_length_le (Nat.le_of_not_lt h), List.take_of_length_le (show l.length ≤ i + 1 by omega)]
theorem val_take_all (l : List Nat) {i : Nat} (h : l.length ≤ i) : val (l.take i) = val l := by rw [List.take_of_length_le h]
theorem val_snoc (l : List Nat) (x : Nat) : val (l ++ [x]) = val l + B ^ l.length * x := by rw [val_append]; simp [val]
theorem WF.snoc {l : List Nat} (h : WF l) {x : Nat} (hx : x < B) : WF (l ++ [x]) := WF.append h fun y hy => by simp at hy; omega
theorem WF.set {l : List Nat} (h : WF l) (i : Nat) {x : Nat} (hx : x < B) : WF (l.set i x) := fun y hy => by
  rcases List.mem_or_eq_of_mem_set hy with h1 | h1
  · exact h y h1
  · omega
theorem wf_takeL {l : List Nat} (h : WF l) : WF (takeL l) := by unfold takeL; split; exact h; exact WF.nil
theorem takeL_le (l : List Nat) : (takeL l).length ≤ l.length := by unfold takeL; split <;> simp
theorem B_val : B = 4294967296 := rfl

theorem val_split (l : List Nat) (i : Nat) (h : i < l.length) : val l = val (l.take i) + B ^ i * (l.getD i 0 + B * val (l.drop (i + 1))) := by
  conv => lhs; rw [← List.take_append_drop i l, val_append]
  rw [List.length_take, Nat.min_eq_left (Nat.le_of_lt h), List.drop_eq_getElem_cons h]
  simp [val, List.getD, h]

def cmpN (m n : Nat) : Int := if m < n then -1 else if n < m then 1 else 0

theorem cmpN_neg (m n : Nat) : cmpN m n < 0 ↔ m < n := by unfold cmpN; split; omega; split <;> omega
theorem cmpN_zero (m n : Nat) : cmpN m n = 0 ↔ m = n := by unfold cmpN; split; omega; split <;> omega
theorem val_lt_of {a b : List Nat} (ha : WF a) {i : Nat} (h1 : i < a.length) (h2 : i < b.length) (hd : a.drop (i + 1) = b.drop (i + 1)) (h : a.getD i 0 < b.getD i 0) : val a < val b := by
  rw [val_split a i h1, val_split b i h2, hd]
  have h3 := val_lt (ha.take i)
  rw [List.length_take, Nat.min_eq_left (Nat.le_of_lt h1)] at h3
  have : B ^ i * (a.getD i 0 + 1 + B * val (b.drop (i + 1))) ≤ B ^ i * (b.getD i 0 + B * val (b.drop (i + 1))) := Nat.mul_le_mul_left _ (by omega)
  have h4 : B ^ i * (a.getD i 0 + 1 + B * val (b.drop (i + 1))) = B ^ i + B ^ i * (a.getD i 0 + B * val (b.drop (i + 1))) := by
    rw [show a.getD i 0 + 1 + B * val (b.drop (i + 1)) = 1 + (a.getD i 0 + B * val (b.drop (i + 1))) by omega, Nat.mul_add, Nat.mul_one]
  omega
theorem drop_eq_of {a b : List Nat} {i : Nat} (h1 : i < a.length) (h2 : i < b.length) (hd : a.drop (i + 1) = b.drop (i + 1)) (h : a.getD i 0 = b.getD i 0) : a.drop i = b.drop i := by
  rw [List.drop_eq_getElem_cons h1, List.drop_eq_getElem_cons h2, hd]
  simp [List.getD, h1, h2] at h
  rw [h]
theorem lt_of_length {m n : Nat} (h : (limbs m).length < (limbs n).length) : m < n := by
  refine Nat.lt_of_not_le fun hh => ?_
  have := length_limbs_le (Nat.lt_of_le_of_lt hh (lt_pow_length m))
  omega
theorem nv_lt {l : List Nat} (h : WF l) : nv l < B ^ l.length := by
  have := val_lt (wf_takeL h)
  exact Nat.lt_of_lt_of_le this (Nat.pow_le_pow_right (by decide) (takeL_le l))
theorem length_limbs_nv {l : List Nat} (h : WF l) : (limbs (nv l)).length ≤ l.length := length_limbs_le (nv_lt h)
theorem limbs_len_mono {m n : Nat} (h : m ≤ n) : (limbs m).length ≤ (limbs n).length := length_limbs_le (Nat.lt_of_le_of_lt h (lt_pow_length n))
end Go.Vw

/-
  Contracts of functions that are lent blocks of the caller's own, write into them, and hand back new ones. Conditions: the table of types is the program's.
-/
set_option linter.unusedSectionVars false
namespace Go.Vw
open Go.RowKit

mutual
def V.refs : V → List Nat
  | .own k _ _ _ _ => [k]
  | .ptr k _ => [k]
  | .eptr k _ _ _ => [k]
  | .agg cs => V.refsL cs
  | .tup cs => V.refsL cs
  | .fn _ cs => V.refsL cs
  | .d _ => []
def V.refsL : List V → List Nat
  | [] => []
  | x :: xs => V.refs x ++ V.refsL xs
end

section
variable {io io' : Keys} {F : Nat → Prop} {w : World}
mutual
theorem VR.agree : ∀ (x : V) (v : Value), (∀ k ∈ x.refs, io'.io k = io.io k ∧ io.ln k ≤ io'.ln k) → VR io F w x v → VR io' F w x v
  | .d x, v, _, h => by simp only [VR] at h ⊢; exact h
  | .own k o n ty sz, v, hk, h => by
      simp only [VR] at h ⊢
      obtain ⟨e1, e2⟩ := hk k (by simp [V.refs])
      rw [e1]
      rcases h with h | ⟨b, cap, arr, h1, h2, h3, h4, h5, h6, h7⟩
      · exact .inl h
      · exact .inr ⟨b, cap, arr, h1, h2, h3, h4, h5, h6, Nat.le_trans h7 e2⟩
  | .ptr k off, v, hk, h => by simp only [VR] at h ⊢; rw [(hk k (by simp [V.refs])).1]; exact h
  | .eptr k sz i f, v, hk, h => by simp only [VR] at h ⊢; rw [(hk k (by simp [V.refs])).1]; exact h
  | .agg cs, v, hk, h => by simp only [VR] at h ⊢; obtain ⟨a, e, l, h⟩ := h; exact ⟨a, e, l, VRA.agree cs _ _ (by simpa only [V.refs] using hk) h⟩
  | .tup cs, v, hk, h => by simp only [VR] at h ⊢; obtain ⟨a, e, l, h⟩ := h; exact ⟨a, e, l, VRT.agree cs _ _ (by simpa only [V.refs] using hk) h⟩
  | .fn f cs, v, hk, h => by simp only [VR] at h ⊢; obtain ⟨a, e, l, h⟩ := h; exact ⟨a, e, l, VRA.agree cs _ _ (by simpa only [V.refs] using hk) h⟩
theorem VRA.agree : ∀ (xs : List V) (g : Nat → Option Value) (off : Nat), (∀ k ∈ V.refsL xs, io'.io k = io.io k ∧ io.ln k ≤ io'.ln k) → VRA io F w g off xs → VRA io' F w g off xs
  | [], _, _, _, _ => by simp only [VRA]
  | x :: xs, g, off, hk, h => by
      simp only [V.refsL, List.mem_append] at hk
      simp only [VRA] at h ⊢
      obtain ⟨⟨v, e, h0, h1⟩, h2⟩ := h
      exact ⟨⟨v, e, h0, VR.agree x v (fun k h => hk k (.inl h)) h1⟩, VRA.agree xs _ _ (fun k h => hk k (.inr h)) h2⟩
theorem VRT.agree : ∀ (xs : List V) (g : Nat → Option Value) (off : Nat), (∀ k ∈ V.refsL xs, io'.io k = io.io k ∧ io.ln k ≤ io'.ln k) → VRT io F w g off xs → VRT io' F w g off xs
  | [], _, _, _, _ => by simp only [VRT]
  | x :: xs, g, off, hk, h => by
      simp only [V.refsL, List.mem_append] at hk
      simp only [VRT] at h ⊢
      obtain ⟨⟨v, e, h1⟩, h2⟩ := h
      exact ⟨⟨v, e, VR.agree x v (fun k h => hk k (.inl h)) h1⟩, VRT.agree xs _ _ (fun k h => hk k (.inr h)) h2⟩
end
end

def lnO (B : Nat → Option Blk) (k : Nat) : Nat := match B k with | some b => b.ln | none => 0
theorem lnO_eq (s : St) : s.ln = lnO s.blk := by
  funext k
  unfold lnO
  split
  · rename_i b h; exact ln_of h
  · rename_i h; simp [St.ln, h]
theorem lnO_of {B : Nat → Option Blk} {k : Nat} {b : Blk} (h : B k = some b) : lnO B k = b.ln := by unfold lnO; rw [h]
def OwnA (B : Nat → Option Blk) (io : Nat → Option Nat) : Nat → Prop := fun b => ∃ k, B k ≠ none ∧ io k = some b
structure BsR (A : Nat → Prop) (n0 : Nat) (io : Nat → Option Nat) (F : Nat → Prop) (w : World) (B : Nat → Option Blk) : Prop where
  br : ∀ k b, B k = some b → BR A n0 ⟨io, lnO B⟩ F w k b
  inj : ∀ k k' b, B k ≠ none → B k' ≠ none → io k = some b → io k' = some b → k = k'

def Blk.refs : Blk → List Nat
  | .data _ _ _ _ _ => []
  | .box _ cs => V.refsL cs
  | .hole _ _ _ _ _ _ v => v.refs
  | .vec _ cs => V.refsL cs

structure RetB (P : Program) (f : FuncId) (xs : List V) (B : Nat → Option Blk) (y : V) (B' : Nat → Option Blk) : Prop where
  enters : Enters P f
  keep : ∀ k, B k ≠ none → B' k ≠ none
  ln : ∀ k, B k ≠ none → lnO B k ≤ lnO B' k
  refs : ∀ k ∈ y.refs, B' k ≠ none
  refsB : ∀ k b, B' k = some b → ∀ j ∈ b.refs, B' j ≠ none
  run : ∀ (io : Nat → Option Nat) (F : Nat → Prop) (w : World) (vs : Array Value), (∀ b, F b → b < w.heap.size) → vs.size = xs.length → VRT ⟨io, lnO B⟩ F w (fun i => vs[i]?) 0 xs → BsR (OwnA B io) w.heap.size io F w B →
    Calls P f vs w fun e w' => ∃ v io' F', e = .returned v ∧ Kept (OwnA B io) w w' ∧ (∀ b, F b → F' b) ∧ (∀ b, F' b → b < w'.heap.size ∧ (F b ∨ w.heap.size ≤ b ∨ OwnA B io b)) ∧ (∀ k, B k ≠ none → io' k = io k) ∧ VR ⟨io', lnO B'⟩ F' w' y v ∧ BsR (OwnA B io) w.heap.size io' F' w' B'

theorem BR.notF {A : Nat → Prop} {n0 : Nat} {io : Keys} {F : Nat → Prop} {w : World} {k : Nat} {b : Blk} (h : BR A n0 io F w k b) {c : Nat} (e : io.io k = some c) : ¬ F c ∧ (A c ∨ n0 ≤ c) ∧ c < w.heap.size := by
  cases b with
  | data ty sz en z l =>
    simp only [BR] at h
    rcases h with ⟨h0, _⟩ | ⟨c', arr, g1, g2, g3, g4, _⟩
    · rw [h0] at e; cases e
    · rw [g1] at e; cases e; exact ⟨g2, g3, lt_of_heap g4⟩
  | box ty cells =>
    simp only [BR] at h
    obtain ⟨c', arr, g1, g2, g3, g4, _⟩ := h
    rw [g1] at e; cases e; exact ⟨g2, g3, lt_of_heap g4⟩
  | vec ty cells =>
    simp only [BR] at h
    obtain ⟨c', arr, g1, g2, g3, g4, _⟩ := h
    rw [g1] at e; cases e; exact ⟨g2, g3, lt_of_heap g4⟩
  | hole ty sz en z l i v =>
    simp only [BR] at h
    obtain ⟨c', arr, g1, g2, g3, g4, _⟩ := h
    rw [g1] at e; cases e; exact ⟨g2, g3, lt_of_heap g4⟩

theorem BR.agree {A A' : Nat → Prop} {n0 n0' : Nat} {io io' : Keys} {F : Nat → Prop} {w : World} {k : Nat} (hA : ∀ c, A c ∨ n0 ≤ c → A' c ∨ n0' ≤ c) (hk : io'.io k = io.io k) : ∀ {b : Blk}, (∀ j ∈ b.refs, io'.io j = io.io j ∧ io.ln j ≤ io'.ln j) → BR A n0 io F w k b → BR A' n0' io' F w k b
  | .data ty sz e z l, _, h => by
    simp only [BR] at h ⊢
    rw [hk]
    rcases h with h | ⟨b, arr, h1, h2, h3, h4, h5⟩
    · exact .inl h
    · exact .inr ⟨b, arr, h1, h2, hA _ h3, h4, h5⟩
  | .box ty cells, hj, h => by
    simp only [BR] at h ⊢
    rw [hk]
    obtain ⟨b, arr, h1, h2, h3, h4, h5⟩ := h
    exact ⟨b, arr, h1, h2, hA _ h3, h4, VRA.agree _ _ _ (by simpa only [Blk.refs] using hj) h5⟩
  | .vec ty cells, hj, h => by
    simp only [BR] at h ⊢
    rw [hk]
    obtain ⟨b, arr, h1, h2, h3, h4, h5⟩ := h
    exact ⟨b, arr, h1, h2, hA _ h3, h4, VRA.agree _ _ _ (by simpa only [Blk.refs] using hj) h5⟩
  | .hole ty sz e z l i v, hj, h => by
    simp only [BR] at h ⊢
    rw [hk]
    obtain ⟨b, arr, h1, h2, h3, h4, h5⟩ := h
    obtain ⟨q0, q1, u, q2, q2', q3⟩ := h5
    exact ⟨b, arr, h1, h2, hA _ h3, h4, q0, q1, u, q2, q2', VR.agree _ _ (by simpa only [Blk.refs] using hj) q3⟩

/-! ## Calling -/

def St.subs (s : St) : List Nat → St
  | [] => s
  | k :: r => (St.subs s r).sub k none
def ioSubs (io io' : Nat → Option Nat) : List Nat → Nat → Option Nat
  | [] => io
  | k :: r => updio (ioSubs io io' r) k (io' k)
theorem ioSubs_of (io io' : Nat → Option Nat) : ∀ (ks : List Nat) (k : Nat), (k ∈ ks → ioSubs io io' ks k = io' k) ∧ (k ∉ ks → ioSubs io io' ks k = io k)
  | [], k => ⟨fun h => by simp at h, fun _ => rfl⟩
  | a :: r, k => by
    obtain ⟨h1, h2⟩ := ioSubs_of io io' r k
    by_cases e : k = a
    · subst e
      exact ⟨fun _ => updio_same _ _ _, fun h => by simp at h⟩
    · refine ⟨fun h => ?_, fun h => ?_⟩
      · rw [ioSubs, updio_ne _ _ e]; exact h1 (by simpa [e] using h)
      · rw [ioSubs, updio_ne _ _ e]; exact h2 (fun h' => h (by simp [h']))
theorem SR.subs {X : Ctx} {io : Nat → Option Nat} {F : Nat → Prop} {s : St} {a : Act} {w : World} (hs : SR X io F s a w) (io' : Nat → Option Nat) : ∀ (ks : List Nat), (∀ k ∈ ks, k ∉ X.K) → SR X (ioSubs io io' ks) F (s.subs ks) a w
  | [], _ => hs
  | k :: r, h => (SR.subs hs io' r fun j hj => h j (by simp [hj])).kill k (io' k) (h k (by simp))
theorem subs_blk {s : St} : ∀ (ks : List Nat) {j : Nat} {b : Blk}, (s.subs ks).blk j = some b → j ∉ ks ∧ ∃ b0, s.blk j = some b0
  | [], j, b, h => ⟨by simp, b, h⟩
  | k :: r, j, b, h => by
    obtain ⟨hne, b0, h0, _⟩ := sub_blk h
    obtain ⟨h1, h2⟩ := subs_blk r h0
    exact ⟨by simp [hne, h1], h2⟩
theorem subs_ln {s : St} : ∀ (ks : List Nat) {j : Nat}, (s.subs ks).ln j = if j ∈ ks then 0 else s.ln j
  | [], j => by simp [St.subs]
  | k :: r, j => by
    simp only [St.subs]
    by_cases e : j = k
    · subst e; rw [sub_ln_same]; simp
    · rw [sub_ln e, subs_ln r]; simp [e]

def St.over (s : St) (bs : List (Nat × Blk)) : St := { s with blk := fun k => match lookB bs k with | some b => some b | none => s.blk k }
theorem over_ln {s : St} {bs : List (Nat × Blk)} (j : Nat) : (s.over bs).ln j = if lookB bs j = none then s.ln j else lnO (lookB bs) j := by
  rw [lnO_eq]
  unfold lnO St.over
  simp only
  cases h : lookB bs j with
  | none => simp only [if_true]; rw [lnO_eq]; rfl
  | some b => simp

def LeVT (xs ys : List V) : Prop := ys.length = xs.length ∧ ∀ io F w g off, VRT io F w g off xs → VRT io F w g off ys
theorem LeVT.nil : LeVT [] [] := ⟨rfl, fun _ _ _ _ _ h => h⟩
theorem LeVT.cons {x : V} {xs ys : List V} (h : LeVT xs ys) : LeVT (x :: xs) (x :: ys) := ⟨by simp [h.1], fun io F w g off k => by
  simp only [VRT] at k ⊢; exact ⟨k.1, h.2 _ _ _ _ _ k.2⟩⟩
theorem LeVT.consD {x y : D} {xs ys : List V} (e : LeD x y) (h : LeVT xs ys) : LeVT (.d x :: xs) (.d y :: ys) := ⟨by simp [h.1], fun io F w g off k => by
  simp only [VRT, VR] at k ⊢; obtain ⟨⟨v, k1, k2⟩, k3⟩ := k; exact ⟨⟨v, k1, e _ _ _ k2⟩, h.2 _ _ _ _ _ k3⟩⟩

section
variable {X : Ctx} {all : Array Oper} {s : St} {o : Oper} {c : Call} {f : FuncId} {caps : List V}

theorem SR.afterB (fr : List Nat) {io : Nat → Option Nat} {F : Nat → Prop} {a : Act} {w : World} (hs : SR X io F s a w) {B : Nat → Option Blk} {bs' : List (Nat × Blk)} (hB : ∀ k b, B k = some b → s.blk k = some b) (hkeep : ∀ k, B k ≠ none → lookB bs' k ≠ none) (hlnm : ∀ k, B k ≠ none → lnO B k ≤ lnO (lookB bs') k) (hrefsB : ∀ k b, lookB bs' k = some b → ∀ j ∈ b.refs, lookB bs' j ≠ none) (hfr : ∀ k, lookB bs' k ≠ none → B k ≠ none ∨ k ∈ fr) (hfr2 : ∀ k ∈ fr, k ∉ X.K ∧ B k = none) {w' : World} {io' : Nat → Option Nat} {F' : Nat → Prop} (g1 : Kept (OwnA B io) w w') (g2 : ∀ b, F b → F' b) (g3 : ∀ b, F' b → b < w'.heap.size ∧ (F b ∨ w.heap.size ≤ b ∨ OwnA B io b)) (g4 : ∀ k, B k ≠ none → io' k = io k) (g6 : BsR (OwnA B io) w.heap.size io' F' w' (lookB bs')) :
    SR X (ioSubs io io' fr) F' ((s.subs fr).over bs') a w' ∧ ∀ k, lookB bs' k ≠ none → ioSubs io io' fr k = io' k ∧ lnO (lookB bs') k ≤ ((s.subs fr).over bs').ln k := by
  have hln : ∀ k, B k ≠ none → s.ln k ≤ lnO B k := fun k hk => by
    obtain ⟨b, hb⟩ := Option.ne_none_iff_exists'.1 hk
    rw [lnO_of hb, ln_of (hB k b hb)]; exact Nat.le_refl _
  have hs1 := hs.subs io' fr (fun k hk => (hfr2 k hk).1)
  have hio1 : ∀ k, lookB bs' k ≠ none → ioSubs io io' fr k = io' k := fun k hk => by
    by_cases e : k ∈ fr
    · exact (ioSubs_of io io' fr k).1 e
    · rw [(ioSubs_of io io' fr k).2 e]
      exact (g4 k ((hfr k hk).resolve_right e)).symm
  have hA : ∀ c, OwnA B io c → X.A c ∨ X.w0.heap.size ≤ c := fun c ⟨k, hk, e⟩ => by
    obtain ⟨b, hb⟩ := Option.ne_none_iff_exists'.1 hk
    exact ((hs.bl k b (hB k b hb)).notF e).2.1
  have hAF : ∀ c, OwnA B io c → ¬ F c := fun c ⟨k, hk, e⟩ => by
    obtain ⟨b, hb⟩ := Option.ne_none_iff_exists'.1 hk
    exact ((hs.bl k b (hB k b hb)).notF e).1
  have hArea : ∀ c, OwnA B io c ∨ w.heap.size ≤ c → X.A c ∨ X.w0.heap.size ≤ c := fun c h => h.elim (hA c) (fun h => .inr (Nat.le_trans hs.kept.size h))
  have hst : Stays F w w' := fun b h => g1.block b (hs.ff b h).1 (fun h' => hAF b h' h)
  have hoth : ∀ j c, s.blk j ≠ none → B j = none → io j = some c → ¬ OwnA B io c ∧ c < w.heap.size := fun j c hj hBj e => by
    obtain ⟨b, hb⟩ := Option.ne_none_iff_exists'.1 hj
    refine ⟨fun ⟨k, hk, e'⟩ => ?_, ((hs.bl j b hb).notF e).2.2⟩
    obtain ⟨b2, hb2⟩ := Option.ne_none_iff_exists'.1 hk
    have := hs.inj j k c hj (by rw [hB k b2 hb2]; simp) e e'
    rw [this] at hBj; exact hk hBj
  have hlt : ∀ j, s.ln j ≤ lnO B j ∨ B j = none := fun j => by
    by_cases e : B j = none
    · exact .inr e
    · exact .inl (hln j e)
  have hi : ∀ k, (((s.subs fr).over bs').keys (ioSubs io io' fr)).io k = ((s.subs fr).keys (ioSubs io io' fr)).io k ∧ ((s.subs fr).keys (ioSubs io io' fr)).ln k ≤ (((s.subs fr).over bs').keys (ioSubs io io' fr)).ln k := fun k => ⟨rfl, by
    show (s.subs fr).ln k ≤ ((s.subs fr).over bs').ln k
    rw [over_ln]
    split
    · exact Nat.le_refl _
    · rename_i hk
      rw [subs_ln]
      split
      · exact Nat.zero_le _
      · rename_i hk2
        have hBk := (hfr k hk).resolve_right hk2
        exact Nat.le_trans (hln k hBk) (hlnm k hBk)⟩
  have hlnB : ∀ k, lookB bs' k ≠ none → lnO (lookB bs') k ≤ ((s.subs fr).over bs').ln k := fun k hk => by rw [over_ln, if_neg hk]; exact Nat.le_refl _
  have hov : ∀ k, lookB bs' k ≠ none → ((s.subs fr).over bs').blk k = lookB bs' k := fun k hk => by
    obtain ⟨b, hb⟩ := Option.ne_none_iff_exists'.1 hk
    simp only [St.over, hb]
  have hov2 : ∀ k, lookB bs' k = none → ((s.subs fr).over bs').blk k = (s.subs fr).blk k := fun k hk => by simp only [St.over, hk]
  have key : SR X (ioSubs io io' fr) F' ((s.subs fr).over bs') a w' := by
    refine ⟨⟨g1.os.trans hs.kept.os, g1.tape.trans hs.kept.tape, g1.output.trans hs.kept.output, Nat.le_trans hs.kept.size g1.size, fun b e1 e2 => ?_, hs.kept.shape.trans g1.shape⟩, fun t => VR.mono hi g2 hst g1.shape _ _ (hs1.tm t), hs1.nt, DfR.mono hi g2 hst g1.shape _ _ hs1.df, fun k b hk => ?_, fun k k' b e1 e2 e3 e4 => ?_, fun b hb => ?_, fun b hb => g2 b (hs.f0 b hb), hs1.st⟩
    · rw [g1.block b (Nat.lt_of_lt_of_le e1 hs.kept.size) (fun h => by rcases hA b h with h | h; exact e2 h; omega)]
      exact hs.kept.block b e1 e2
    · by_cases e : lookB bs' k = none
      · rw [hov2 k e] at hk
        obtain ⟨q1, b0, q2⟩ := subs_blk fr hk
        have hBk : B k = none := by
          by_cases h : B k = none
          · exact h
          · exact absurd e (hkeep k h)
        refine BR.mono hi g2 hst g1.shape (fun c o' e1 e2 e3 => ?_) (hs1.bl k b hk)
        have e1' : io k = some c := by rw [← (ioSubs_of io io' fr k).2 q1]; exact e1
        obtain ⟨p1, p2⟩ := hoth k c (by rw [q2]; simp) hBk e1'
        refine ⟨(g1.block c p2 p1).trans e2, fun h => ?_⟩
        rcases (g3 c h).2 with h | h | h
        · exact e3 h
        · omega
        · exact p1 h
      · rw [hov k e] at hk
        exact BR.agree (io := ⟨io', lnO (lookB bs')⟩) hArea (hio1 k e) (fun j hj => ⟨hio1 j (hrefsB k b hk j hj), hlnB j (hrefsB k b hk j hj)⟩) (g6.br k b hk)
    · by_cases h1 : lookB bs' k = none
      · by_cases h2 : lookB bs' k' = none
        · rw [hov2 k h1] at e1
          rw [hov2 k' h2] at e2
          exact hs1.inj k k' b e1 e2 e3 e4
        · exfalso
          rw [hov2 k h1] at e1
          obtain ⟨b1, hb1⟩ := Option.ne_none_iff_exists'.1 e1
          obtain ⟨q1, b0, q2⟩ := subs_blk fr hb1
          have hBk : B k = none := by
            by_cases h : B k = none
            · exact h
            · exact absurd h1 (hkeep k h)
          rw [(ioSubs_of io io' fr k).2 q1] at e3
          obtain ⟨p1, p2⟩ := hoth k b (by rw [q2]; simp) hBk e3
          rw [hio1 k' h2] at e4
          obtain ⟨b2, hb2⟩ := Option.ne_none_iff_exists'.1 h2
          rcases ((g6.br k' b2 hb2).notF e4).2.1 with h | h
          · exact p1 h
          · omega
      · by_cases h2 : lookB bs' k' = none
        · exfalso
          rw [hov2 k' h2] at e2
          obtain ⟨b1, hb1⟩ := Option.ne_none_iff_exists'.1 e2
          obtain ⟨q1, b0, q2⟩ := subs_blk fr hb1
          have hBk : B k' = none := by
            by_cases h : B k' = none
            · exact h
            · exact absurd h2 (hkeep k' h)
          rw [(ioSubs_of io io' fr k').2 q1] at e4
          obtain ⟨p1, p2⟩ := hoth k' b (by rw [q2]; simp) hBk e4
          rw [hio1 k h1] at e3
          obtain ⟨b2, hb2⟩ := Option.ne_none_iff_exists'.1 h1
          rcases ((g6.br k b2 hb2).notF e3).2.1 with h | h
          · exact p1 h
          · omega
        · rw [hio1 k h1] at e3
          rw [hio1 k' h2] at e4
          exact g6.inj k k' b h1 h2 e3 e4
    · obtain ⟨q1, q2⟩ := g3 b hb
      refine ⟨q1, ?_⟩
      rcases q2 with h | h | h
      · exact (hs.ff b h).2
      · exact .inr (.inl (Nat.le_trans hs.kept.size h))
      · rcases hA b h with h | h
        · exact .inr (.inr h)
        · exact .inr (.inl h)
  exact ⟨key, fun k hk => ⟨hio1 k hk, hlnB k hk⟩⟩

theorem SR.lendB {io : Nat → Option Nat} {F : Nat → Prop} {a : Act} {w : World} (hs : SR X io F s a w) {B : Nat → Option Blk} (hB : ∀ k b, B k = some b → s.blk k = some b) (hBr : ∀ k b, B k = some b → ∀ j ∈ b.refs, B j ≠ none) : BsR (OwnA B io) w.heap.size io F w B := by
  have hln : ∀ k, B k ≠ none → s.ln k ≤ lnO B k := fun k hk => by
    obtain ⟨b, hb⟩ := Option.ne_none_iff_exists'.1 hk
    rw [lnO_of hb, ln_of (hB k b hb)]; exact Nat.le_refl _
  exact ⟨fun k b hk => by
    have := hs.bl k b (hB k b hk)
    have hk' : B k ≠ none := by rw [hk]; simp
    have h0 := BR.agree (io := s.keys io) (A' := fun _ => True) (n0' := 0) (io' := ⟨io, lnO B⟩) (fun c _ => .inl trivial) rfl (fun j hj => ⟨rfl, hln j (hBr k b hk j hj)⟩) this
    cases b with
    | data ty sz e z l =>
      simp only [BR] at h0 ⊢
      rcases h0 with h | ⟨b, arr, g1, g2, g3, g4, g5⟩
      · exact .inl h
      · exact .inr ⟨b, arr, g1, g2, .inl ⟨k, hk', g1⟩, g4, g5⟩
    | box ty cells =>
      simp only [BR] at h0 ⊢
      obtain ⟨b, arr, g1, g2, g3, g4, g5⟩ := h0
      exact ⟨b, arr, g1, g2, .inl ⟨k, hk', g1⟩, g4, g5⟩
    | vec ty cells =>
      simp only [BR] at h0 ⊢
      obtain ⟨b, arr, g1, g2, g3, g4, g5⟩ := h0
      exact ⟨b, arr, g1, g2, .inl ⟨k, hk', g1⟩, g4, g5⟩
    | hole ty sz e z l i v =>
      simp only [BR] at h0 ⊢
      obtain ⟨b, arr, g1, g2, g3, g4, g5⟩ := h0
      exact ⟨b, arr, g1, g2, .inl ⟨k, hk', g1⟩, g4, g5⟩,
    fun k k' b e1 e2 e3 e4 => by
      obtain ⟨b1, hb1⟩ := Option.ne_none_iff_exists'.1 e1
      obtain ⟨b2, hb2⟩ := Option.ne_none_iff_exists'.1 e2
      exact hs.inj k k' b (by rw [hB k b1 hb1]; simp) (by rw [hB k' b2 hb2]; simp) e3 e4⟩

theorem e_callB (fr : List Nat) (hg : gd all s o = some true) (hd : dstOk X.N o.dst = true) (hop : o.op = .call c) (hc : calleeOf s c = some (f, caps)) {xs : List V} (le : LeVT (c.args.toList.map s.opd ++ caps) xs) {B : Nat → Option Blk} {bs' : List (Nat × Blk)} {y : V} (hr : RetB X.P f xs B y (lookB bs')) (hB : ∀ k b, B k = some b → s.blk k = some b) (hxr : ∀ k ∈ V.refsL xs, B k ≠ none) (hBr : ∀ k b, B k = some b → ∀ j ∈ b.refs, B j ≠ none) (hfr : ∀ k, lookB bs' k ≠ none → B k ≠ none ∨ k ∈ fr) (hfr2 : ∀ k ∈ fr, k ∉ X.K ∧ B k = none) : E1 X all s o (((s.subs fr).over bs').put o.dst y) := fun io F a w hs K Q hK => by
  obtain ⟨vs, h1, h2, h3⟩ := run_call (P := X.P) (operands_of (all := all) (fun t _ => hs.tm t)) hop hc hr.enters
  unfold opWp
  rw [if_pos (gd_sound (fun t _ => hs.tm t) hg)]; left
  unfold Oper.wp; rw [h1]
  simp only [Oper.upon]
  have hln : ∀ k, B k ≠ none → s.ln k ≤ lnO B k := fun k hk => by
    obtain ⟨b, hb⟩ := Option.ne_none_iff_exists'.1 hk
    rw [lnO_of hb, ln_of (hB k b hb)]; exact Nat.le_refl _
  have hargs : VRT ⟨io, lnO B⟩ F w (fun i => vs[i]?) 0 xs := VRT.agree (io := s.keys io) _ _ _ (fun k hk => ⟨rfl, hln k (hxr k hk)⟩) (le.2 _ _ _ _ _ h3)
  have hbl := hs.lendB hB hBr
  refine (hr.run io F w vs (fun b h => (hs.ff b h).1) (by rw [h2, le.1]) hargs hbl).mono fun e w' ⟨v, io', F', he, g1, g2, g3, g4, g5, g6⟩ => ?_
  subst he
  obtain ⟨key, hkk⟩ := hs.afterB fr hB hr.keep hr.ln hr.refsB hfr hfr2 g1 g2 g3 g4 g6
  refine hK (ioSubs io io' fr) F' _ _ (key.put (dstOk_sound hd) (VR.agree (io := ⟨io', lnO (lookB bs')⟩) _ _ (fun k hk => hkk k (hr.refs k hk)) g5))
end

/-! ## Leaving -/

def St.initB (xs : List V) (bs : List (Nat × Blk)) : St := { tmps := fun t => nth (.d .undef) xs t, blk := lookB bs, dfs := [] }
def OneLe (ys : List V) (y : V) : Prop := (∃ x, ys = [x] ∧ LeVT [x] [y]) ∨ (ys.length ≠ 1 ∧ ∃ zs, y = .tup zs ∧ LeVT ys zs)
def retPostB (T : TypeId → Option TyD) (fn : Func) (y : V) (bs' : List (Nat × Blk)) : Exit → St → Prop
  | .normal, s | .ret, s => s.dfs = [] ∧ (∃ ys, resAll T s fn.results.toList = some ys ∧ OneLe ys y) ∧ AllB s bs'
  | _, _ => False
def coverR (bs : List (Nat × Blk)) : List (Nat × Blk) → Bool
  | [] => true
  | (_, b) :: r => keysOk bs b.refs && coverR bs r
theorem hasKey_ne {bs : List (Nat × Blk)} {k : Nat} (h : hasKey bs k = true) : lookB bs k ≠ none := by
  unfold hasKey at h
  split at h
  · rename_i b hb; rw [hb]; simp
  · cases h
theorem lookB_mem {bs : List (Nat × Blk)} {k : Nat} {b : Blk} : lookB bs k = some b → (k, b) ∈ bs := by
  induction bs with
  | nil => intro h; simp [lookB] at h
  | cons p r ih =>
    obtain ⟨k', v⟩ := p
    intro h
    simp only [lookB] at h
    cases hb : Nat.beq k k' with
    | true => have := Nat.eq_of_beq_eq_true hb; subst this; rw [hb] at h; simp at h; simp [h]
    | false => rw [hb] at h; exact List.mem_cons_of_mem _ (ih (by simpa using h))
theorem coverR_spec {bs : List (Nat × Blk)} : ∀ {l : List (Nat × Blk)}, coverR bs l = true → ∀ p ∈ l, ∀ j ∈ p.2.refs, lookB bs j ≠ none
  | [], _, p, h => by simp at h
  | (a, v) :: l, h, p, hp => by
    simp only [coverR, Bool.and_eq_true] at h
    rcases List.mem_cons.1 hp with rfl | hp
    · exact fun j hj => hasKey_ne (keysOk_spec h.1 j hj)
    · exact coverR_spec h.2 p hp
def LnLe (bs' : List (Nat × Blk)) : List (Nat × Blk) → Prop
  | [] => True
  | (k, b) :: r => b.ln ≤ lnO (lookB bs') k ∧ LnLe bs' r
theorem LnLe_spec {bs' : List (Nat × Blk)} : ∀ {l : List (Nat × Blk)}, LnLe bs' l → ∀ p ∈ l, p.2.ln ≤ lnO (lookB bs') p.1
  | [], _, p, h => by simp at h
  | (a, v) :: l, h, p, hp => by
    rcases List.mem_cons.1 hp with rfl | hp
    · exact h.1
    · exact LnLe_spec h.2 p hp

theorem sr_initB {P : Program} {T : TypeId → Option TyD} (hT : TabOk P T) {N : Nat} {w : World} {io : Nat → Option Nat} {F : Nat → Prop} {xs : List V} {bs : List (Nat × Blk)} {ks : List Nat} {vs : Array Value} (hl : vs.size = xs.length) (hn : xs.length ≤ N) (hF : ∀ b, F b → b < w.heap.size) (hv : VRT ⟨io, lnO (lookB bs)⟩ F w (fun i => vs[i]?) 0 xs) (hbs : BsR (OwnA (lookB bs) io) w.heap.size io F w (lookB bs)) : SR ⟨P, T, hT, N, w, OwnA (lookB bs) io, F, ks, io⟩ io F (St.initB xs bs) { tmps := vs ++ Array.replicate (N - vs.size) undef, defers := [] } w := by
  have hk : (St.initB xs bs).keys io = ⟨io, lnO (lookB bs)⟩ := by unfold St.keys; rw [lnO_eq]; rfl
  refine ⟨⟨rfl, rfl, rfl, Nat.le_refl _, fun _ _ _ => rfl, Shapes.refl _⟩, fun t => ?_, by simp; omega, rfl, fun k b h => by rw [hk]; exact hbs.br k b h, hbs.inj, fun b h => ⟨hF b h, .inl h⟩, fun b h => h, fun k hk => rfl⟩
  rw [hk]
  simp only [St.initB]
  by_cases ht : t < vs.size
  · have hx := List.getElem?_eq_getElem (show t < xs.length by omega)
    obtain ⟨v, h1, h2⟩ := VRT_iff.1 hv t _ hx
    simp only [Nat.zero_add] at h1
    rw [nth_of hx]
    have : (vs ++ Array.replicate (N - vs.size) undef).getD t undef = v := by
      rw [Array.getD_eq_getD_getElem?, Array.getElem?_append_left ht, h1]; rfl
    rw [this]; exact h2
  · rw [nth_none (by omega)]; simp only [VR, DR]

def RetPost (io : Nat → Option Nat) (F : Nat → Prop) (w : World) (bs : List (Nat × Blk)) (y : V) (bs' : List (Nat × Blk)) : Ending → World → Prop := fun e w' => ∃ v io' F', e = .returned v ∧ Kept (OwnA (lookB bs) io) w w' ∧ (∀ b, F b → F' b) ∧ (∀ b, F' b → b < w'.heap.size ∧ (F b ∨ w.heap.size ≤ b ∨ OwnA (lookB bs) io b)) ∧ (∀ k, lookB bs k ≠ none → io' k = io k) ∧ VR ⟨io', lnO (lookB bs')⟩ F' w' y v ∧ BsR (OwnA (lookB bs) io) w.heap.size io' F' w' (lookB bs')
theorem retB_fin {P : Program} {T : TypeId → Option TyD} {hT : TabOk P T} {fn : Func} {N : Nat} {ks : List Nat} {bs bs' : List (Nat × Blk)} {y : V} (hks : bs.map (·.1) = ks) (hcov : (keysOk bs' ks && keysOk bs' y.refs && coverR bs' bs') = true) {io io' : Nat → Option Nat} {F F' : Nat → Prop} {w w' : World} {s' : St} {a' : Act} (hs' : SR ⟨P, T, hT, N, w, OwnA (lookB bs) io, F, ks, io⟩ io' F' s' a' w') (hq : s'.dfs = [] ∧ (∃ ys, resAll T s' fn.results.toList = some ys ∧ OneLe ys y) ∧ AllB s' bs') : a'.defers = [] ∧ ∃ v, (results fn a'.tmps).run P w' = .ok v w' ∧ RetPost io F w bs y bs' (.returned v) w' := by
  simp only [Bool.and_eq_true] at hcov
  obtain ⟨⟨c1, c2⟩, c3⟩ := hcov
  have hkey : ∀ k, lookB bs k ≠ none → k ∈ ks := fun k hk => by
    obtain ⟨b, hb⟩ := Option.ne_none_iff_exists'.1 hk
    rw [← hks]; exact List.mem_map.2 ⟨_, lookB_mem hb, rfl⟩
  obtain ⟨hd, ⟨ys, h1, h2⟩, h3⟩ := hq
  obtain ⟨vs', hvs, hl', hd'⟩ := resAll_sound hT hs' _ h1
  have hln' : ∀ k, lookB bs' k ≠ none → s'.ln k ≤ lnO (lookB bs') k := fun k hk => by
    obtain ⟨b, hb⟩ := Option.ne_none_iff_exists'.1 hk
    rw [ln_of (lookB_of h3 k b hb).1, lnO_of hb]; exact Nat.le_refl _
  have hag : ∀ k ∈ y.refs, io' k = io' k ∧ s'.ln k ≤ lnO (lookB bs') k := fun k hk => ⟨rfl, hln' k (hasKey_ne (keysOk_spec c2 k hk))⟩
  have hdf := hs'.df
  rw [hd] at hdf
  have hbs' : BsR (OwnA (lookB bs) io) w.heap.size io' F' w' (lookB bs') := ⟨fun k b hk => BR.agree (io := s'.keys io') (io' := ⟨io', lnO (lookB bs')⟩) (fun _ h => h) rfl (fun j hj => ⟨rfl, hln' j (coverR_spec c3 _ (lookB_mem hk) j hj)⟩) (hs'.bl k b (lookB_of h3 k b hk).1), fun k k' b e1 e2 e3 e4 => by
    obtain ⟨b1, hb1⟩ := Option.ne_none_iff_exists'.1 e1
    obtain ⟨b2, hb2⟩ := Option.ne_none_iff_exists'.1 e2
    exact hs'.inj k k' b (by rw [(lookB_of h3 k b1 hb1).1]; simp) (by rw [(lookB_of h3 k' b2 hb2).1]; simp) e3 e4⟩
  refine ⟨hdf, _, run_results fn hvs, _, io', F', rfl, hs'.kept, hs'.f0, hs'.ff, fun k hk => hs'.st k (hkey k hk), ?_, hbs'⟩
  rcases h2 with ⟨x, rfl, hx⟩ | ⟨hne, zs, rfl, hz⟩
  · obtain ⟨v, rfl⟩ := List.length_eq_one_iff.1 (show vs'.length = 1 by simpa using hl')
    have := hx.2 _ _ _ _ _ hd'
    simp only [VRT] at this
    obtain ⟨⟨u, hu, hd2⟩, _⟩ := this
    simp at hu; subst hu
    exact VR.agree (io := s'.keys io') _ _ hag hd2
  · have hn1 : vs'.length ≠ 1 := by rw [hl']; exact hne
    have := hz.2 _ _ _ _ _ hd'
    refine VR.agree (io := s'.keys io') _ _ hag ?_
    rw [dif_neg hn1]
    simp only [VR]
    exact ⟨vs'.toArray, rfl, by simp; rw [hl', hz.1], by simpa using this⟩
theorem retB_of_awp {P : Program} {T : TypeId → Option TyD} (hT : TabOk P T) {f : FuncId} {fn : Func} {c : Code} (ks : List Nat) (hf : P.funcs[f]? = some fn) (hname : (fn.name == "runtime.NumGoroutine") = false) (hb : fn.body = some c) {xs : List V} {bs bs' : List (Nat × Blk)} {y : V} (hks : bs.map (·.1) = ks) (hn : xs.length ≤ fn.ntmps) (hcov : (keysOk bs' ks && keysOk bs' y.refs && coverR bs' bs') = true) (hln : LnLe bs' bs)
    (h : ∀ w0 F0 A io0, awp ⟨P, T, hT, fn.ntmps, w0, A, F0, ks, io0⟩ c (retPostB T fn y bs') (St.initB xs bs)) : RetB P f xs (lookB bs) y (lookB bs') := by
  simp only [Bool.and_eq_true] at hcov
  obtain ⟨⟨c1, c2⟩, c3⟩ := hcov
  have hkey : ∀ k, lookB bs k ≠ none → k ∈ ks := fun k hk => by
    obtain ⟨b, hb⟩ := Option.ne_none_iff_exists'.1 hk
    rw [← hks]; exact List.mem_map.2 ⟨_, lookB_mem hb, rfl⟩
  refine ⟨⟨fn, hf, hname, by rw [hb]; rfl⟩, fun k hk => hasKey_ne (keysOk_spec c1 k (hkey k hk)), fun k hk => ?_, fun k hk => hasKey_ne (keysOk_spec c2 k hk), fun k b hk j hj => coverR_spec c3 _ (lookB_mem hk) j hj, fun io F w vs hF hl hv hbs => ?_⟩
  · obtain ⟨b, hb⟩ := Option.ne_none_iff_exists'.1 hk
    rw [lnO_of hb]
    exact LnLe_spec hln _ (lookB_mem hb)
  refine calls_of_wp hf hb ?_
  refine wp_mono (h w F _ io io F _ w (sr_initB hT (ks := ks) hl hn hF hv hbs)) fun e a' w' ⟨s', io', F', hq, hs'⟩ => ?_
  cases e <;> simp only [retPostB] at hq <;> first | exact hq.elim | exact retB_fin hks (by simp only [Bool.and_eq_true]; exact ⟨⟨c1, c2⟩, c3⟩) hs' hq

theorem finB {T : TypeId → Option TyD} {fn : Func} {y x : V} {bs' : List (Nat × Blk)} {s : St} (hd : s.dfs = []) (h : resAll T s fn.results.toList = some [x]) (hle : LeVT [x] [y]) (hB : AllB s bs') : retPostB T fn y bs' .ret s := ⟨hd, ⟨_, h, .inl ⟨x, rfl, hle⟩⟩, hB⟩
theorem finBT {T : TypeId → Option TyD} {fn : Func} {ys zs : List V} {bs' : List (Nat × Blk)} {s : St} (hd : s.dfs = []) (h : resAll T s fn.results.toList = some ys) (hn : Nat.beq ys.length 1 = false) (hle : LeVT ys zs) (hB : AllB s bs') : retPostB T fn (.tup zs) bs' .ret s := ⟨hd, ⟨_, h, .inr ⟨beq_ne hn, zs, rfl, hle⟩⟩, hB⟩

/-! ## Keys under other names -/

mutual
def V.ren (σ : Nat → Nat) : V → V
  | .own k o n ty sz => .own (σ k) o n ty sz
  | .ptr k o => .ptr (σ k) o
  | .eptr k sz i f => .eptr (σ k) sz i f
  | .agg cs => .agg (V.renL σ cs)
  | .tup cs => .tup (V.renL σ cs)
  | .fn f cs => .fn f (V.renL σ cs)
  | .d x => .d x
def V.renL (σ : Nat → Nat) : List V → List V
  | [] => []
  | x :: xs => V.ren σ x :: V.renL σ xs
end
theorem V.renL_len (σ : Nat → Nat) : ∀ l, (V.renL σ l).length = l.length
  | [] => rfl
  | x :: xs => by simp [V.renL, V.renL_len σ xs]
section
variable {io : Keys} {σ : Nat → Nat} {F : Nat → Prop} {w : World}
mutual
theorem VR.ren : ∀ (x : V) (v : Value), VR ⟨fun k => io.io (σ k), fun k => io.ln (σ k)⟩ F w x v ↔ VR io F w (x.ren σ) v
  | .d x, v => by simp only [V.ren, VR]
  | .own k o n ty sz, v => by simp only [V.ren, VR]
  | .ptr k o, v => by simp only [V.ren, VR]
  | .eptr k sz i f, v => by simp only [V.ren, VR]
  | .agg cs, v => by
    simp only [V.ren, VR, V.renL_len]
    exact ⟨fun ⟨a, e, l, h⟩ => ⟨a, e, l, (VRA.ren cs _ _).1 h⟩, fun ⟨a, e, l, h⟩ => ⟨a, e, l, (VRA.ren cs _ _).2 h⟩⟩
  | .tup cs, v => by
    simp only [V.ren, VR, V.renL_len]
    exact ⟨fun ⟨a, e, l, h⟩ => ⟨a, e, l, (VRT.ren cs _ _).1 h⟩, fun ⟨a, e, l, h⟩ => ⟨a, e, l, (VRT.ren cs _ _).2 h⟩⟩
  | .fn f cs, v => by
    simp only [V.ren, VR, V.renL_len]
    exact ⟨fun ⟨a, e, l, h⟩ => ⟨a, e, l, (VRA.ren cs _ _).1 h⟩, fun ⟨a, e, l, h⟩ => ⟨a, e, l, (VRA.ren cs _ _).2 h⟩⟩
theorem VRA.ren : ∀ (xs : List V) (g : Nat → Option Value) (off : Nat), VRA ⟨fun k => io.io (σ k), fun k => io.ln (σ k)⟩ F w g off xs ↔ VRA io F w g off (V.renL σ xs)
  | [], _, _ => by simp only [V.renL, VRA]
  | x :: xs, g, off => by
    simp only [V.renL, VRA]
    exact ⟨fun ⟨⟨v, e, h0, h1⟩, h2⟩ => ⟨⟨v, e, h0, (VR.ren x v).1 h1⟩, (VRA.ren xs _ _).1 h2⟩, fun ⟨⟨v, e, h0, h1⟩, h2⟩ => ⟨⟨v, e, h0, (VR.ren x v).2 h1⟩, (VRA.ren xs _ _).2 h2⟩⟩
theorem VRT.ren : ∀ (xs : List V) (g : Nat → Option Value) (off : Nat), VRT ⟨fun k => io.io (σ k), fun k => io.ln (σ k)⟩ F w g off xs ↔ VRT io F w g off (V.renL σ xs)
  | [], _, _ => by simp only [V.renL, VRT]
  | x :: xs, g, off => by
    simp only [V.renL, VRT]
    exact ⟨fun ⟨⟨v, e, h1⟩, h2⟩ => ⟨⟨v, e, (VR.ren x v).1 h1⟩, (VRT.ren xs _ _).1 h2⟩, fun ⟨⟨v, e, h1⟩, h2⟩ => ⟨⟨v, e, (VR.ren x v).2 h1⟩, (VRT.ren xs _ _).2 h2⟩⟩
end
end
def Blk.ren (σ : Nat → Nat) : Blk → Blk
  | .data ty sz e z l => .data ty sz e z l
  | .box ty cs => .box ty (V.renL σ cs)
  | .hole ty sz e z l i v => .hole ty sz e z l i (V.ren σ v)
  | .vec ty cs => .vec ty (V.renL σ cs)
theorem renL_len (σ : Nat → Nat) : ∀ l : List V, (V.renL σ l).length = l.length
  | [] => rfl
  | x :: l => by simp only [V.renL, List.length_cons, renL_len σ l]
theorem Blk.ren_ln (σ : Nat → Nat) (b : Blk) : (b.ren σ).ln = b.ln := by
  cases b with
  | vec ty cs => exact renL_len σ cs
  | _ => rfl
theorem BR.ren {A : Nat → Prop} {n0 : Nat} {io : Keys} {σ : Nat → Nat} {F : Nat → Prop} {w : World} {k : Nat} {b : Blk} : BR A n0 ⟨fun k => io.io (σ k), fun k => io.ln (σ k)⟩ F w k b ↔ BR A n0 io F w (σ k) (b.ren σ) := by
  cases b with
  | data ty sz e z l => simp only [Blk.ren, BR]
  | box ty cs => simp only [Blk.ren, BR, VRA.ren]
  | vec ty cs => simp only [Blk.ren, BR, VRA.ren]
  | hole ty sz e z l i v => simp only [Blk.ren, BR, HRA, VR.ren]
mutual
theorem V.ren_refs (σ : Nat → Nat) : ∀ (x : V) (k : Nat), k ∈ (x.ren σ).refs ↔ ∃ j ∈ x.refs, σ j = k
  | .d x, k => by simp [V.ren, V.refs]
  | .own j o n ty sz, k => by simp [V.ren, V.refs, eq_comm]
  | .ptr j o, k => by simp [V.ren, V.refs, eq_comm]
  | .eptr j sz i f, k => by simp [V.ren, V.refs, eq_comm]
  | .agg cs, k => by simp only [V.ren, V.refs]; exact V.renL_refs σ cs k
  | .tup cs, k => by simp only [V.ren, V.refs]; exact V.renL_refs σ cs k
  | .fn f cs, k => by simp only [V.ren, V.refs]; exact V.renL_refs σ cs k
theorem V.renL_refs (σ : Nat → Nat) : ∀ (xs : List V) (k : Nat), k ∈ V.refsL (V.renL σ xs) ↔ ∃ j ∈ V.refsL xs, σ j = k
  | [], k => by simp [V.renL, V.refsL]
  | x :: xs, k => by
    simp only [V.renL, V.refsL, List.mem_append, V.ren_refs σ x k, V.renL_refs σ xs k]
    exact ⟨fun h => h.elim (fun ⟨j, h1, h2⟩ => ⟨j, .inl h1, h2⟩) (fun ⟨j, h1, h2⟩ => ⟨j, .inr h1, h2⟩), fun ⟨j, h1, h2⟩ => h1.elim (fun h => .inl ⟨j, h, h2⟩) (fun h => .inr ⟨j, h, h2⟩)⟩
end
theorem Blk.ren_refs (σ : Nat → Nat) (b : Blk) (k : Nat) : k ∈ (b.ren σ).refs ↔ ∃ j ∈ b.refs, σ j = k := by
  cases b with
  | data ty sz e z l => simp [Blk.ren, Blk.refs]
  | box ty cs => simp only [Blk.ren, Blk.refs]; exact V.renL_refs σ cs k
  | vec ty cs => simp only [Blk.ren, Blk.refs]; exact V.renL_refs σ cs k
  | hole ty sz e z l i v => simp only [Blk.ren, Blk.refs]; exact V.ren_refs σ v k

def renO (σ τ : Nat → Nat) (B : Nat → Option Blk) (k : Nat) : Option Blk := (B (τ k)).map (Blk.ren σ)
theorem RetB.renO {P : Program} {f : FuncId} {xs : List V} {B B' : Nat → Option Blk} {y : V} (h : RetB P f xs B y B') {σ τ : Nat → Nat} (h1 : ∀ k, σ (τ k) = k) (h2 : ∀ k, τ (σ k) = k) : RetB P f (V.renL σ xs) (renO σ τ B) (V.ren σ y) (renO σ τ B') := by
  have ne : ∀ (B : Nat → Option Blk) k, Vw.renO σ τ B k ≠ none ↔ B (τ k) ≠ none := fun B k => by simp [Vw.renO]
  have ln : ∀ (B : Nat → Option Blk) k, lnO (Vw.renO σ τ B) k = lnO B (τ k) := fun B k => by
    unfold lnO Vw.renO
    cases B (τ k) with
    | none => rfl
    | some b => exact Blk.ren_ln σ b
  have lnf : ∀ (B : Nat → Option Blk), (fun k => lnO (Vw.renO σ τ B) (σ k)) = lnO B := fun B => by funext k; rw [ln, h2]
  have ow : ∀ io, OwnA (Vw.renO σ τ B) io = OwnA B (fun k => io (σ k)) := fun io => by
    funext b
    apply propext
    constructor
    · rintro ⟨k, e1, e2⟩
      exact ⟨τ k, (ne B k).1 e1, by simp only [h1]; exact e2⟩
    · rintro ⟨k, e1, e2⟩
      exact ⟨σ k, (ne B (σ k)).2 (by rw [h2]; exact e1), e2⟩
  have bs : ∀ (A : Nat → Prop) n0 (io : Nat → Option Nat) F w (B : Nat → Option Blk), BsR A n0 io F w (Vw.renO σ τ B) ↔ BsR A n0 (fun k => io (σ k)) F w B := fun A n0 io F w B => by
    constructor
    · intro hb
      refine ⟨fun k b hk => ?_, fun k k' b e1 e2 e3 e4 => ?_⟩
      · have := hb.br (σ k) (b.ren σ) (by simp [Vw.renO, h2, hk])
        have := BR.ren.2 this
        simp only [lnf] at this
        exact this
      · have := hb.inj (σ k) (σ k') b ((ne B _).2 (by rw [h2]; exact e1)) ((ne B _).2 (by rw [h2]; exact e2)) e3 e4
        have := congrArg τ this
        rwa [h2, h2] at this
    · intro hb
      refine ⟨fun k b hk => ?_, fun k k' b e1 e2 e3 e4 => ?_⟩
      · simp only [Vw.renO, Option.map_eq_some_iff] at hk
        obtain ⟨b0, e0, rfl⟩ := hk
        have := hb.br (τ k) b0 e0
        rw [← lnf B] at this
        have := BR.ren (io := ⟨io, lnO (Vw.renO σ τ B)⟩).1 this
        rwa [h1] at this
      · have := hb.inj (τ k) (τ k') b ((ne B _).1 e1) ((ne B _).1 e2) (by rw [h1]; exact e3) (by rw [h1]; exact e4)
        have := congrArg σ this
        rwa [h1, h1] at this
  refine ⟨h.enters, fun k hk => (ne B' k).2 (h.keep _ ((ne B k).1 hk)), fun k hk => by rw [ln, ln]; exact h.ln _ ((ne B k).1 hk), fun k hk => ?_, fun k b hk j hj => ?_, fun io F w vs hF hl hv hb => ?_⟩
  · obtain ⟨j, e1, rfl⟩ := (V.ren_refs σ y k).1 hk
    exact (ne B' _).2 (by rw [h2]; exact h.refs j e1)
  · simp only [Vw.renO, Option.map_eq_some_iff] at hk
    obtain ⟨b0, e0, rfl⟩ := hk
    obtain ⟨i, e1, rfl⟩ := (Blk.ren_refs σ b0 j).1 hj
    exact (ne B' _).2 (by rw [h2]; exact h.refsB _ b0 e0 i e1)
  · have hv' := (VRT.ren (io := ⟨io, lnO (Vw.renO σ τ B)⟩) xs _ _).2 hv
    simp only [lnf] at hv'
    rw [ow io] at hb ⊢
    refine (h.run (fun k => io (σ k)) F w vs hF (by rw [hl, V.renL_len]) hv' ((bs _ _ _ _ _ _).1 hb)).mono fun e w' ⟨v, io', F', he, g1, g2, g3, g4, g5, g6⟩ => ?_
    have eio : (fun k => (fun k => io' (τ k)) (σ k)) = io' := by funext k; simp only [h2]
    refine ⟨v, fun k => io' (τ k), F', he, g1, g2, g3, fun k hk => ?_, ?_, ?_⟩
    · show io' (τ k) = _
      rw [g4 _ ((ne B k).1 hk), h1]
    · refine (VR.ren (io := ⟨fun k => io' (τ k), lnO (Vw.renO σ τ B')⟩) y v).1 ?_
      simp only [lnf, h2]
      exact g5
    · refine (bs _ _ _ _ _ _).2 ?_
      rw [eio]; exact g6

theorem beq_of_ne {a b : Nat} (h : a ≠ b) : Nat.beq a b = false := by
  cases hb : Nat.beq a b with
  | true => exact absurd (Nat.eq_of_beq_eq_true hb) h
  | false => rfl
def swp (a b k : Nat) : Nat := bif Nat.beq k a then b else bif Nat.beq k b then a else k
theorem swp_swp (a b k : Nat) : swp a b (swp a b k) = k := by
  unfold swp
  by_cases h1 : k = a
  · subst h1
    simp only [Nat.beq_refl, cond_true]
    by_cases h2 : b = k
    · subst h2; simp
    · have : Nat.beq b k = false := beq_of_ne h2
      simp [this]
  · have e1 : Nat.beq k a = false := beq_of_ne h1
    by_cases h2 : k = b
    · subst h2; simp [e1]
    · have e2 : Nat.beq k b = false := beq_of_ne h2
      simp [e1, e2]
def perm : List (Nat × Nat) → Nat → Nat
  | [], k => k
  | (a, b) :: r, k => perm r (swp a b k)
def permI : List (Nat × Nat) → Nat → Nat
  | [], k => k
  | (a, b) :: r, k => swp a b (permI r k)
theorem perm_permI : ∀ l k, perm l (permI l k) = k
  | [], k => rfl
  | (a, b) :: r, k => by simp only [perm, permI, swp_swp, perm_permI r]
theorem permI_perm : ∀ l k, permI l (perm l k) = k
  | [], k => rfl
  | (a, b) :: r, k => by simp only [perm, permI, permI_perm r, swp_swp]
def renB (σ : Nat → Nat) : List (Nat × Blk) → List (Nat × Blk)
  | [] => []
  | (k, b) :: r => (σ k, b.ren σ) :: renB σ r
theorem lookB_ren {σ τ : Nat → Nat} (h1 : ∀ k, σ (τ k) = k) (h2 : ∀ k, τ (σ k) = k) : ∀ bs, Vw.renO σ τ (lookB bs) = lookB (renB σ bs)
  | [] => rfl
  | (k, b) :: r => by
    funext j
    have ih := congrFun (lookB_ren h1 h2 r) j
    simp only [Vw.renO, renB, lookB] at ih ⊢
    by_cases e : j = σ k
    · subst e; simp [h2]
    · have e1 : Nat.beq j (σ k) = false := beq_of_ne e
      have e2 : Nat.beq (τ j) k = false := by
        have : τ j ≠ k := fun e' => e (by rw [← e', h1])
        exact beq_of_ne this
      rw [e1, e2]; simpa using ih
theorem RetB.ren {P : Program} {f : FuncId} {xs : List V} {bs bs' : List (Nat × Blk)} {y : V} (h : RetB P f xs (lookB bs) y (lookB bs')) (l : List (Nat × Nat)) {xs2 : List V} {bs2 bs2' : List (Nat × Blk)} {y2 : V} (e1 : V.renL (perm l) xs = xs2 := by rfl) (e2 : renB (perm l) bs = bs2 := by rfl) (e3 : V.ren (perm l) y = y2 := by rfl) (e4 : renB (perm l) bs' = bs2' := by rfl) : RetB P f xs2 (lookB bs2) y2 (lookB bs2') := by
  subst e1 e2 e3 e4
  have := h.renO (perm_permI l) (permI_perm l)
  rwa [lookB_ren (perm_permI l) (permI_perm l), lookB_ren (perm_permI l) (permI_perm l)] at this

/-! ## The rule -/

def keysIn (bs : List (Nat × Blk)) (fr : List Nat) : List (Nat × Blk) → Bool
  | [] => true
  | (k, _) :: r => (hasKey bs k || fr.elem k) && keysIn bs fr r
theorem keysIn_spec {bs : List (Nat × Blk)} {fr : List Nat} : ∀ {l : List (Nat × Blk)}, keysIn bs fr l = true → ∀ p ∈ l, lookB bs p.1 ≠ none ∨ p.1 ∈ fr
  | [], _, p, h => by simp at h
  | (a, v) :: l, h, p, hp => by
    simp only [keysIn, Bool.and_eq_true, Bool.or_eq_true] at h
    rcases List.mem_cons.1 hp with rfl | hp
    · exact h.1.imp hasKey_ne (fun h => by simpa using h)
    · exact keysIn_spec h.2 p hp
def freshOk (K : List Nat) (bs : List (Nat × Blk)) : List Nat → Bool
  | [] => true
  | k :: r => !(K.contains k) && !(hasKey bs k) && freshOk K bs r
theorem freshOk_spec {K : List Nat} {bs : List (Nat × Blk)} : ∀ {l : List Nat}, freshOk K bs l = true → ∀ k ∈ l, k ∉ K ∧ lookB bs k = none
  | [], _, k, h => by simp at h
  | a :: l, h, k, hk => by
    simp only [freshOk, Bool.and_eq_true, Bool.not_eq_true'] at h
    rcases List.mem_cons.1 hk with rfl | hk
    · refine ⟨notMem h.1.1, ?_⟩
      have := h.1.2
      unfold hasKey at this
      split at this
      · cases this
      · assumption
    · exact freshOk_spec h.2 k hk

theorem leVT {xs ys : List V} (h : LeVT xs ys := by
  first
  | ((repeat' (first | exact Go.Vw.LeVT.nil | apply Go.Vw.LeVT.cons | (refine Go.Vw.LeVT.consD ?_ ?_) | exact Go.Vw.LeD.full | exact Go.Vw.LeD.tk0 | exact Go.Vw.LeD.cutAll Go.Vw.sc | exact Go.Vw.LeD.refl _ | exact Go.Vw.LeD.eqi (by omega) | exact Go.Vw.LeD.nils | (refine Go.Vw.LeD.agg ?_; exact Go.Vw.leL) | (refine Go.Vw.LeD.lit rfl ?_; repeat' (first | exact Go.Vw.LeR.nil | refine Go.Vw.LeR.cons rfl Go.Vw.leL ?_)) | (refine Go.Vw.LeD.fn ?_; exact Go.Vw.leL) | (refine Go.Vw.LeD.ptr ?_ _; exact Go.Vw.leL))); done)
  | fail) : LeVT xs ys := h
theorem allB {s : St} {bs : List (Nat × Blk)} (h : AllB s bs := by
  first
  | exact trivial
  | exact ⟨rfl, trivial⟩
  | exact ⟨rfl, rfl, trivial⟩
  | exact ⟨rfl, rfl, rfl, trivial⟩
  | exact ⟨rfl, rfl, rfl, rfl, trivial⟩
  | fail) : AllB s bs := h
theorem clB {X : Ctx} {all : Array Oper} {s : St} {o : Oper} {Q : Exit → St → Prop} {rest : List Oper} {c : Call} {caps : List V} {d : Tmp} (f : FuncId) (fr : List Nat) {xs : List V} {bs bs' : List (Nat × Blk)} {y : V} (hr : RetB X.P f xs (lookB bs) y (lookB bs')) (hcf : calleeIs s o.op f = true) (hop : o.op = .call c) (hc : calleeOf s c = some (f, caps)) (hdst : o.dst = some d) (hg : gd all s o = some true) (hd : dstOk X.N (some d) = true) (hcov : (keysOk bs (V.refsL xs) && coverR bs bs && keysIn bs fr bs' && freshOk X.K bs fr) = true) (le : LeVT (c.args.toList.map s.opd ++ caps) xs) (hB : AllB s bs) (k : awpL X all rest Q (((s.subs fr).over bs').put (some d) y)) : awpL X all (o :: rest) Q s := by
  simp only [Bool.and_eq_true] at hcov
  obtain ⟨⟨⟨c1, c2⟩, c3⟩, c4⟩ := hcov
  rw [← hdst] at hd k
  exact awpL_step (e_callB fr hg hd hop hc le hr (fun k b hk => (lookB_of hB k b hk).1) (fun k hk => hasKey_ne (keysOk_spec c1 k hk)) (fun k b hk j hj => coverR_spec c2 _ (lookB_mem hk) j hj) (fun k hk => by
    obtain ⟨b, hb⟩ := Option.ne_none_iff_exists'.1 hk
    exact keysIn_spec c3 _ (lookB_mem hb)) (fun k hk => freshOk_spec c4 k hk)) k

/-! ## Where ways meet -/

@[irreducible] def Stop (p : Prop) : Prop := p
theorem stopOut {p : Prop} (h : p) : Stop p := by unfold Stop; exact h
def headId : Code → Option Nat
  | .region id _ _ => some id
  | .seq x _ => headId x
  | .block _ c => headId c
  | .loop c => headId c
  | _ => none
def headIs (n : Nat) (c : Code) : Bool := match headId c with | some m => Nat.beq m n | none => false
theorem stopA (n : Nat) {X : Ctx} {c : Code} {Q : Exit → St → Prop} {s : St} (h : headIs n c = true) (k : Stop (awp X c Q s)) : awp X c Q s := by unfold Stop at k; exact k
theorem awp_meet1 {α : Type} {X : Ctx} {x y : Code} {Q : Exit → St → Prop} {s : St} (st : α → List (Nat × V) × List (Nat × Blk)) (I : α → Prop) (h2 : ∀ a, I a → awp X y Q (St.of (st a).1 (st a).2)) (h1 : awp X x (andThen (fun s' => ∃ a, I a ∧ AllT s' (st a).1 ∧ AllB s' (st a).2) Q) s) (hc : ∀ a, (coverT (st a).2 (st a).1 && coverB (st a).2 (st a).2) = true := by exact fun _ => rfl) : awp X (.seq x y) Q s :=
  awp_seq (awp_mono (fun e s h => by
    cases e <;> first | exact h | exact (let ⟨a, hI, ht, hb⟩ := h; awp_slots _ _ ht hb (h2 a hI) (hc a))) h1)
theorem awp_meet2 {α β : Type} {X : Ctx} {x y : Code} {Q : Exit → St → Prop} {s : St} (st : α → β → List (Nat × V) × List (Nat × Blk)) (I : α → β → Prop) (h2 : ∀ a b, I a b → awp X y Q (St.of (st a b).1 (st a b).2)) (h1 : awp X x (andThen (fun s' => ∃ a b, I a b ∧ AllT s' (st a b).1 ∧ AllB s' (st a b).2) Q) s) (hc : ∀ a b, (coverT (st a b).2 (st a b).1 && coverB (st a b).2 (st a b).2) = true := by exact fun _ _ => rfl) : awp X (.seq x y) Q s :=
  awp_seq (awp_mono (fun e s h => by
    cases e <;> first | exact h | exact (let ⟨a, b, hI, ht, hb⟩ := h; awp_slots _ _ ht hb (h2 a b hI) (hc a b))) h1)
theorem blkEq {ty : TypeId} {sz : Nat} {α : Type} {e : α → List D} {z : α} {l l' : List α} (h : l = l') : some (Blk.data ty sz e z l) = some (Blk.data ty sz e z l') := by rw [h]
end Go.Vw

/-
  The walk's steps under one name (made by tools/genvgo.py). Conditions: as each rule says.
-/
namespace Go.Vw

section
variable {ex : Bool} {X : Ctx} {all : Array Oper} {Q : Exit → St → Prop} {s : St} {o : Oper} {pre rest : List Oper} {d : Tmp} {p : Prop} [Decidable p]
theorem gdLDT (hg : guardOf all o = some d) (hd : s.tmps d = .d (.bool (decide p))) (hp : p) : awpL X all (o :: rest) Q (s.put (some d) (.d (.bool true))) → awpL X all (o :: rest) Q s := fun h => gdLD hg hd (fun _ => h) (fun e => absurd hp e)
theorem gdLDF (hg : guardOf all o = some d) (hd : s.tmps d = .d (.bool (decide p))) (hp : ¬ p) : awpL X all (o :: rest) Q (s.put (some d) (.d (.bool false))) → awpL X all (o :: rest) Q s := fun h => gdLD hg hd (fun e => absurd e hp) (fun _ => h)
theorem gdLNT (hg : guardOf all o = some d) (hd : s.tmps d = .d (.bool (!decide p))) (hp : ¬ p) : awpL X all (o :: rest) Q (s.put (some d) (.d (.bool true))) → awpL X all (o :: rest) Q s := fun h => gdLN hg hd (fun _ => h) (fun e => absurd e hp)
theorem gdRDT (hg : guardOf all o = some d) (hd : s.tmps d = .d (.bool (decide p))) (hp : p) : awpR ex X all (o :: pre) rest Q (s.put (some d) (.d (.bool true))) → awpR ex X all (o :: pre) rest Q s := fun h => gdRD hg hd (fun _ => h) (fun e => absurd hp e)
theorem gdRDF (hg : guardOf all o = some d) (hd : s.tmps d = .d (.bool (decide p))) (hp : ¬ p) : awpR ex X all (o :: pre) rest Q (s.put (some d) (.d (.bool false))) → awpR ex X all (o :: pre) rest Q s := fun h => gdRD hg hd (fun e => absurd e hp) (fun _ => h)
variable {c : Operand} {x y : Code}
theorem cdDT (hc : s.opd c = .d (.bool (decide p))) (hp : p) : awp X x Q s → awp X (.cond c x y) Q s := fun h => awp_condD hc (fun _ => h) (fun e => absurd hp e)
theorem cdDF (hc : s.opd c = .d (.bool (decide p))) (hp : ¬ p) : awp X y Q s → awp X (.cond c x y) Q s := fun h => awp_condD hc (fun e => absurd e hp) (fun _ => h)
theorem cdNT (hc : s.opd c = .d (.bool (!decide p))) (hp : ¬ p) : awp X x Q s → awp X (.cond c x y) Q s := fun h => awp_condN hc (fun _ => h) (fun e => absurd e hp)
theorem cdNF (hc : s.opd c = .d (.bool (!decide p))) (hp : p) : awp X y Q s → awp X (.cond c x y) Q s := fun h => awp_condN hc (fun e => absurd hp e) (fun _ => h)
end
theorem wG {G P : Prop} (k : G) (h : G → P := by
  first
  | (show _ → awpL _ _ _ _ _
     first
     | exact Go.Vw.stepQ true Go.Vw.tt Go.Vw.stt rfl rfl rfl Go.Vw.sc
     | exact Go.Vw.awpL_nil
     | exact Go.Vw.stepOff Go.Vw.sff rfl rfl
     | exact Go.Vw.stepStore Go.Vw.tt rfl rfl rfl rfl rfl rfl rfl rfl rfl Go.Vw.leL Go.Vw.sc
     | exact Go.Vw.stepStoreV Go.Vw.tt rfl rfl rfl rfl rfl rfl rfl rfl Go.Vw.sc
     | exact Go.Vw.stepAppF Go.Vw.tt rfl rfl rfl rfl rfl rfl rfl rfl rfl rfl rfl (Go.Vw.LeD.refl _) (Go.Vw.LeD.lit rfl (Go.Vw.LeR.cons rfl Go.Vw.leL Go.Vw.LeR.nil)) Go.Vw.sc
     | exact Go.Vw.stepAppF Go.Vw.tt rfl rfl rfl rfl rfl rfl rfl rfl rfl rfl rfl (Go.Vw.LeD.refl _) (Go.Vw.LeD.lit rfl Go.Vw.LeR.nil) Go.Vw.sc
     | exact Go.Vw.stepApp Go.Vw.tt rfl rfl rfl rfl rfl rfl rfl rfl rfl rfl rfl rfl Go.Vw.sc Go.Vw.srcOk Go.Vw.sc
     | exact Go.Vw.stepAppNil Go.Vw.tt rfl rfl rfl rfl rfl rfl rfl rfl rfl rfl rfl Go.Vw.srcZ Go.Vw.sc
     | exact Go.Vw.stepE1 Go.Vw.tt rfl rfl rfl rfl rfl
     | exact Go.Vw.stepE0 Go.Vw.tt rfl rfl rfl
     | exact Go.Vw.stepLitF Go.Vw.tt rfl Go.Vw.tt rfl rfl rfl
     | exact Go.Vw.stepLit Go.Vw.tt rfl rfl rfl rfl
     | exact Go.Vw.stepMake (mm := true) (en := Go.Vw.eN .u32) (z := 0) Go.Vw.tt rfl rfl rfl rfl rfl rfl rfl rfl rfl rfl rfl rfl Go.Vw.leL Go.Vw.sc Go.Vw.sc
     | exact Go.Vw.stepMake (mm := false) (en := Go.Vw.eN .u32) (z := 0) Go.Vw.tt rfl rfl rfl rfl rfl rfl rfl rfl rfl rfl rfl rfl Go.Vw.leL Go.Vw.sc Go.Vw.sc
     | exact Go.Vw.stepMake (mm := true) (en := Go.Vw.eI .i64) (z := 0) Go.Vw.tt rfl rfl rfl rfl rfl rfl rfl rfl rfl rfl rfl rfl Go.Vw.leL Go.Vw.sc Go.Vw.sc
     | exact Go.Vw.stepMake (mm := false) (en := Go.Vw.eI .i64) (z := 0) Go.Vw.tt rfl rfl rfl rfl rfl rfl rfl rfl rfl rfl rfl rfl Go.Vw.leL Go.Vw.sc Go.Vw.sc
     | exact Go.Vw.stepQ false Go.Vw.tt Go.Vw.stt rfl rfl rfl Go.Vw.sc
     | exact Go.Vw.stepB2S rfl rfl rfl rfl rfl rfl rfl rfl rfl rfl rfl (Go.Vw.LeD.refl _)
     | exact Go.Vw.stepB2SO rfl rfl rfl rfl rfl rfl rfl rfl rfl rfl rfl rfl
     | exact Go.Vw.stepS2B rfl rfl rfl rfl rfl rfl rfl rfl rfl rfl rfl
     | exact Go.Vw.stepB2S rfl rfl rfl rfl rfl rfl rfl rfl rfl rfl rfl (Go.Vw.LeD.lit rfl (Go.Vw.LeR.cons rfl Go.Vw.leL Go.Vw.LeR.nil))
     | exact Go.Vw.stepM0 Go.Vw.tt rfl (Go.Vw.m_q true rfl rfl Go.Vw.sc)
     | exact Go.Vw.gdLDT rfl rfl (by omega)
     | exact Go.Vw.gdLDF rfl rfl (by omega)
     | exact Go.Vw.gdLNT rfl rfl (by omega)
     | exact Go.Vw.gdLNF rfl rfl (by omega))
  | (show _ → awp _ _ _ _
     first
     | exact Go.Vw.awp_seq
     | exact Go.Vw.awp_region
     | exact Go.Vw.awp_block
     | exact Go.Vw.awp_condT rfl
     | exact Go.Vw.awp_condF rfl
     | exact Go.Vw.awp_skip
     | exact Go.Vw.awp_exit
     | exact Go.Vw.awp_ret
     | exact Go.Vw.cdDT rfl (by omega)
     | exact Go.Vw.cdDF rfl (by omega)
     | exact Go.Vw.cdNT rfl (by omega)
     | exact Go.Vw.cdNF rfl (by omega))
  | (show _ → andThen _ _ _ _
     first
     | exact Go.Vw.thenN
     | exact Go.Vw.thenX
     | exact Go.Vw.thenR)
  | (show _ → inBlock _ _ _ _
     first
     | exact Go.Vw.inN
     | exact Go.Vw.inX
     | exact Go.Vw.inY rfl
     | exact Go.Vw.inR)
  | (show _ → awpR _ _ _ _ _ _ _
     first
     | exact Go.Vw.stepRQ true Go.Vw.tt Go.Vw.stt rfl rfl rfl Go.Vw.sc rfl rfl
     | exact Go.Vw.awpR_nil
     | exact Go.Vw.stepROff Go.Vw.sff rfl rfl rfl
     | exact Go.Vw.stepRStore Go.Vw.tt rfl rfl rfl rfl rfl rfl rfl rfl rfl Go.Vw.leL Go.Vw.sc rfl rfl
     | exact Go.Vw.stepRStoreB Go.Vw.tt rfl rfl rfl rfl rfl rfl rfl rfl rfl rfl rfl rfl
     | exact Go.Vw.stepRAlloc Go.Vw.tt rfl rfl rfl rfl rfl rfl rfl rfl rfl
     | exact Go.Vw.stepRLitF Go.Vw.tt rfl Go.Vw.tt rfl rfl rfl
     | exact Go.Vw.stepRAppF Go.Vw.tt rfl rfl rfl rfl rfl rfl rfl rfl rfl rfl rfl (Go.Vw.LeD.refl _) (Go.Vw.LeD.lit rfl (Go.Vw.LeR.cons rfl Go.Vw.leL Go.Vw.LeR.nil)) Go.Vw.sc
     | exact Go.Vw.stepRAppF Go.Vw.tt rfl rfl rfl rfl rfl rfl rfl rfl rfl rfl rfl (Go.Vw.LeD.refl _) (Go.Vw.LeD.lit rfl Go.Vw.LeR.nil) Go.Vw.sc
     | exact Go.Vw.stepRLit Go.Vw.tt rfl rfl rfl rfl
     | exact Go.Vw.stepRQ false Go.Vw.tt Go.Vw.stt rfl rfl rfl Go.Vw.sc rfl rfl
     | exact Go.Vw.stepRB2S rfl rfl rfl rfl rfl rfl rfl rfl rfl rfl rfl (Go.Vw.LeD.refl _)
     | exact Go.Vw.stepRB2SO rfl rfl rfl rfl rfl rfl rfl rfl rfl rfl rfl rfl
     | exact Go.Vw.stepRS2B rfl rfl rfl rfl rfl rfl rfl rfl rfl rfl rfl
     | exact Go.Vw.stepRB2S rfl rfl rfl rfl rfl rfl rfl rfl rfl rfl rfl (Go.Vw.LeD.lit rfl (Go.Vw.LeR.cons rfl Go.Vw.leL Go.Vw.LeR.nil))
     | exact Go.Vw.gdRDT rfl rfl (by omega)
     | exact Go.Vw.gdRDF rfl rfl (by omega)
     | exact Go.Vw.gdRNT rfl rfl (by omega)
     | exact Go.Vw.gdRNF rfl rfl (by omega))
  | fail) : P := h k
theorem wS {G1 G2 P : Prop} (k1 : G1) (k2 : G2) (h : G1 → G2 → P := by
  first
  | (show _ → _ → awpL _ _ _ _ _
     first
     | exact Go.Vw.gdLD rfl rfl
     | exact Go.Vw.gdLN rfl rfl
     | exact Go.Vw.gdL rfl rfl)
  | (show _ → _ → awp _ _ _ _
     first
     | exact Go.Vw.awp_condD rfl
     | exact Go.Vw.awp_condN rfl
     | exact Go.Vw.awp_cond rfl)
  | (show _ → _ → awpR _ _ _ _ _ _ _
     first
     | exact Go.Vw.gdRD rfl rfl
     | exact Go.Vw.gdRN rfl rfl
     | exact Go.Vw.gdR rfl rfl)
  | fail) : P := h k1 k2
section
variable {ex : Bool} {X : Ctx} {all : Array Oper} {Q : Exit → St → Prop} {s : St} {o : Oper} {pre rest : List Oper} {c : Call} {caps : List V} {ds' : List D} {r : D}
theorem cl2 {Pg : Program} {s1 : St} {d : Tmp} {f : FuncId} (hcf : calleeIs s o.op f = true) (hop : o.op = .call c) (hc : calleeOf s c = some (f, caps)) (hdst : o.dst = some d) (h : CallE X all s s1 o f ds' r) (hP : X.P = Pg) : Ret Pg f ds' (· = r) → awpL X all rest Q (s1.put (some d) (.d r)) → awpL X all (o :: rest) Q s := fun hr k => cl f hcf hop hc hdst h (hP ▸ hr) k
theorem clR2 {Pg : Program} {d : Tmp} {f : FuncId} (hcf : calleeIs s o.op f = true) (hop : o.op = .call c) (hc : calleeOf s c = some (f, caps)) (hdst : o.dst = some d) (h : CallM X all s o f ds' r) (hd : dstOk X.N (some d) = true) (hP : X.P = Pg) : Ret Pg f ds' (· = r) → awpR ex X all pre rest Q (s.put (some d) (.d r)) → awpR ex X all (o :: pre) rest Q s := fun hr k => clR f hcf hop hc hdst h hd (hP ▸ hr) k
end
def FrI (_ : List Nat) : Prop := True
theorem clB2 {Pg : Program} {X : Ctx} {all : Array Oper} {s : St} {o : Oper} {Q : Exit → St → Prop} {rest : List Oper} {c : Call} {caps : List V} {d : Tmp} {f : FuncId} {fr : List Nat} {xs : List V} {bs bs' : List (Nat × Blk)} {y : V} (hcf : calleeIs s o.op f = true) (hop : o.op = .call c) (hc : calleeOf s c = some (f, caps)) (hdst : o.dst = some d) (hg : gd all s o = some true) (hd : dstOk X.N (some d) = true) (hcov : (keysOk bs (V.refsL xs) && coverR bs bs && keysIn bs fr bs' && freshOk X.K bs fr) = true) (le : LeVT (c.args.toList.map s.opd ++ caps) xs) (hB : AllB s bs) (hP : X.P = Pg) : FrI fr → RetB Pg f xs (lookB bs) y (lookB bs') → awpL X all rest Q (((s.subs fr).over bs').put (some d) y) → awpL X all (o :: rest) Q s := fun _ hr k => clB f fr (hP ▸ hr) hcf hop hc hdst hg hd hcov le hB k
theorem wC {Pg : Program} {f : FuncId} {ds' : List D} {r : D} {G P : Prop} (hr : Ret Pg f ds' (· = r)) (k : G) (h : Ret Pg f ds' (· = r) → G → P := by
  first
  | (show _ → _ → awpL _ _ _ _ _
     first
     | exact Go.Vw.cl2 Go.Vw.tt rfl rfl rfl (Go.Vw.callE_of rfl (Go.Vw.callM_plain rfl rfl rfl Go.Vw.tt rfl Go.Vw.leT)) rfl
     | exact Go.Vw.cl2 Go.Vw.tt rfl rfl rfl (Go.Vw.callE_of rfl (Go.Vw.callM_lent true rfl rfl rfl Go.Vw.ff Go.Vw.tt rfl Go.Vw.leT rfl Go.Vw.sc)) rfl
     | exact Go.Vw.cl2 Go.Vw.tt rfl rfl rfl (Go.Vw.callE_of rfl (Go.Vw.callM_lent false rfl rfl rfl Go.Vw.ff Go.Vw.tt rfl Go.Vw.leT rfl Go.Vw.sc)) rfl
     | exact Go.Vw.cl2 Go.Vw.tt rfl rfl rfl (Go.Vw.callE_frz rfl rfl Go.Vw.tt rfl rfl (Go.Vw.callE_of rfl (Go.Vw.callM_plain rfl rfl rfl Go.Vw.tt rfl Go.Vw.leT))) rfl
     | exact Go.Vw.cl2 Go.Vw.tt rfl rfl rfl (Go.Vw.callE_frz rfl rfl Go.Vw.tt rfl rfl (Go.Vw.callE_frz rfl rfl Go.Vw.tt rfl rfl (Go.Vw.callE_of rfl (Go.Vw.callM_plain rfl rfl rfl Go.Vw.tt rfl Go.Vw.leT)))) rfl
     | exact Go.Vw.cl2 (Nat.beq_refl _) rfl rfl rfl (Go.Vw.callE_of rfl (Go.Vw.callM_plain rfl rfl rfl Go.Vw.tt rfl Go.Vw.leT)) rfl
     | exact Go.Vw.cl2 (Nat.beq_refl _) rfl rfl rfl (Go.Vw.callE_of rfl (Go.Vw.callM_lent true rfl rfl rfl Go.Vw.ff Go.Vw.tt rfl Go.Vw.leT rfl Go.Vw.sc)) rfl
     | exact Go.Vw.cl2 (Nat.beq_refl _) rfl rfl rfl (Go.Vw.callE_of rfl (Go.Vw.callM_lent false rfl rfl rfl Go.Vw.ff Go.Vw.tt rfl Go.Vw.leT rfl Go.Vw.sc)) rfl
     | exact Go.Vw.cl2 (Nat.beq_refl _) rfl rfl rfl (Go.Vw.callE_frz rfl rfl Go.Vw.tt rfl rfl (Go.Vw.callE_of rfl (Go.Vw.callM_plain rfl rfl rfl Go.Vw.tt rfl Go.Vw.leT))) rfl
     | exact Go.Vw.cl2 (Nat.beq_refl _) rfl rfl rfl (Go.Vw.callE_frz rfl rfl Go.Vw.tt rfl rfl (Go.Vw.callE_frz rfl rfl Go.Vw.tt rfl rfl (Go.Vw.callE_of rfl (Go.Vw.callM_plain rfl rfl rfl Go.Vw.tt rfl Go.Vw.leT)))) rfl)
  | (show _ → _ → awpR _ _ _ _ _ _ _
     first
     | exact Go.Vw.clR2 Go.Vw.tt rfl rfl rfl (Go.Vw.callM_plain rfl rfl rfl Go.Vw.tt rfl Go.Vw.leT) rfl rfl
     | exact Go.Vw.clR2 Go.Vw.tt rfl rfl rfl (Go.Vw.callM_lent true rfl rfl rfl Go.Vw.ff Go.Vw.tt rfl Go.Vw.leT rfl Go.Vw.sc) rfl rfl
     | exact Go.Vw.clR2 Go.Vw.tt rfl rfl rfl (Go.Vw.callM_lent false rfl rfl rfl Go.Vw.ff Go.Vw.tt rfl Go.Vw.leT rfl Go.Vw.sc) rfl rfl
     | exact Go.Vw.clR2 (Nat.beq_refl _) rfl rfl rfl (Go.Vw.callM_plain rfl rfl rfl Go.Vw.tt rfl Go.Vw.leT) rfl rfl
     | exact Go.Vw.clR2 (Nat.beq_refl _) rfl rfl rfl (Go.Vw.callM_lent true rfl rfl rfl Go.Vw.ff Go.Vw.tt rfl Go.Vw.leT rfl Go.Vw.sc) rfl rfl
     | exact Go.Vw.clR2 (Nat.beq_refl _) rfl rfl rfl (Go.Vw.callM_lent false rfl rfl rfl Go.Vw.ff Go.Vw.tt rfl Go.Vw.leT rfl Go.Vw.sc) rfl rfl)
  | fail) : P := h hr k
theorem wD {Pg : Program} {f : FuncId} (fr : List Nat) {xs : List V} {bs bs' : List (Nat × Blk)} {y : V} {G P : Prop} (hr : RetB Pg f xs (lookB bs) y (lookB bs')) (k : G) (h : FrI fr → RetB Pg f xs (lookB bs) y (lookB bs') → G → P := by
  first
  | (show _ → _ → _ → awpL _ _ _ _ _
     first
     | exact Go.Vw.clB2 Go.Vw.tt rfl rfl rfl rfl rfl rfl Go.Vw.leVT Go.Vw.allB rfl
     | exact Go.Vw.clB2 (Nat.beq_refl _) rfl rfl rfl rfl rfl rfl Go.Vw.leVT Go.Vw.allB rfl)
  | fail) : P := h trivial hr k
theorem wB {T : TypeId → Option TyD} {fn : Func} {y : V} {bs' : List (Nat × Blk)} {e : Exit} {s : St} {G1 G2 : Prop} (k1 : G1) (k2 : G2) (h : G1 → G2 → retPostB T fn y bs' e s := by
  first
  | exact Go.Vw.finB rfl rfl
  | exact Go.Vw.finBT rfl rfl rfl
  | fail) : retPostB T fn y bs' e s := h k1 k2
end Go.Vw

/-
  Contracts of the reference's natural numbers: Valid, trim, limb, Take, compare, Add. Conditions: lengths are bounded.
-/
set_option maxHeartbeats 8000000
namespace Go.Proofs.YtoppaphffnojdaaGreat
open Go.Vw
attribute [local irreducible] awp awpL awpR

theorem ref01_Valid (l : List Nat) (hl : l.length < 10000000000000) : Ret Tryz.prog 146 [u32s l] (· = .bool (valid l)) := by
  refine ret_of_awp tab Tryz.func146 rfl rfl (Nat.le_of_ble_eq_true rfl) (fun w0 F0 => ?_)
  repeat' (first | refine wG ?_ | refine wS ?_ ?_ <;> intro _ | refine finG ?_)
  · rename_i h
    have : l = [] := List.length_eq_zero_iff.1 (by omega)
    subst this; rfl
  · rename_i h
    have hn : l ≠ [] := fun e => h (by simp [e])
    have e : ((l.length : Int) - 1).toNat = l.length - 1 := by omega
    rw [e]
    have hv : valid l = (l.getD (l.length - 1) 0 != 0) := by conv => lhs; rw [list_snoc hn, valid_snoc]
    rw [hv]
    congr 1
    rw [Bool.eq_iff_iff]; simp

theorem trimL_last {m : List Nat} (h : 0 < m.length) (h0 : m.getD (m.length - 1) 0 = 0) : trimL (m.take (m.length - 1)) = trimL m := by
  have hn : m ≠ [] := fun e => by simp [e] at h
  conv => rhs; rw [list_snoc hn, trimL_snoc, if_pos h0]
theorem trimL_done {m : List Nat} (h0 : ¬ m.getD (m.length - 1) 0 = 0) : trimL m = m :=
  valid_trim (by
    have hn : m ≠ [] := fun e => h0 (by simp [e])
    rw [list_snoc hn, valid_snoc, bne_iff_ne]; exact h0)

theorem ref01_trim (l : List Nat) (hl : l.length < 10000000000000) : Ret Tryz.prog 129 [u32s l] (· = u32s (trimL l)) := by
  refine ret_of_awp tab Tryz.func129 rfl rfl (Nat.le_of_ble_eq_true rfl) (fun w0 F0 => ?_)
  repeat' (first | refine wG ?_ | refine wS ?_ ?_ <;> intro _ | refine finG ?_)
  refine awp_loop1 (fun m : List Nat => ([(0, .d (u32s m))], [])) (fun m => trimL m = trimL l ∧ m.length ≤ l.length) (fun m => m.length) l ⟨rfl, Nat.le_refl _⟩ ⟨rfl, rfl⟩ trivial (fun m hm => ?_)
  obtain ⟨hm1, hm2⟩ := hm
  have e : ((m.length : Int) - 1).toNat = m.length - 1 := by omega
  repeat' (first | refine wG ?_ | refine wS ?_ ?_ <;> intro _ | refine finG ?_)
  · rename_i h1 h2
    rw [e] at h2
    refine ⟨m.take ((m.length : Int) - 1).toNat, ⟨?_, ?_⟩, ?_, ⟨rfl, rfl⟩, trivial⟩
    · rw [e, trimL_last (by omega) (by omega), hm1]
    · simp; omega
    · simp; omega
  · rename_i h1 h2
    rw [e] at h2
    rw [← hm1, trimL_done (by omega)]
  · rename_i h1
    have : m = [] := List.length_eq_zero_iff.1 (by omega)
    subst this
    rw [← hm1]; rfl

theorem ref01_limb (l : List Nat) (i : Int) (j : Nat) (hij : i.toNat = j) (hl : l.length < 10000000000000) (hw : WF l) (h0 : 0 ≤ i) (h1 : i < 10000000000000) : Ret Tryz.prog 128 [u32s l, .int .i64 i] (· = .int .u64 (l.getD j 0 : Nat)) := by
  subst hij
  have hb := hw.getD i.toNat
  simp only [B_val] at hb
  refine ret_of_awp tab Tryz.func128 rfl rfl (Nat.le_of_ble_eq_true rfl) (fun w0 F0 => ?_)
  repeat' (first | refine wG ?_ | refine wS ?_ ?_ <;> intro _ | refine finG ?_)
  · rename_i h
    rw [show l.getD i.toNat 0 = 0 from by simp [List.getD, List.getElem?_eq_none (show l.length ≤ i.toNat by omega)]]; rfl
  · rfl
theorem ref01_Take (l : List Nat) (hl : l.length < 10000000000000) : Ret Tryz.prog 122 [u32s l] (· = u32s (takeL l)) := by
  refine ret_of_awp tab Tryz.func122 rfl rfl (Nat.le_of_ble_eq_true rfl) (fun w0 F0 => ?_)
  repeat' (first | refine wG ?_ | refine cl 146 tt rfl rfl rfl (hr := ref01_Valid _ hl) (k := ?_) | refine wS ?_ ?_ <;> intro _ | refine finG ?_)

  · rename_i e
    simp at e
    simp [takeL, e]
  · rename_i e
    simp at e
    simp [takeL, e]

theorem ref01_compare (m n : Nat) (ha : (limbs m).length < 10000000000000) (hb : (limbs n).length < 10000000000000) : Ret Tryz.prog 149 [u32s (limbs m), u32s (limbs n)] (· = .int .i64 (cmpN m n)) := by
  have wa := wf_limbs m
  have wb := wf_limbs n
  have va := val_limbs m
  have vb := val_limbs n
  have la := @lt_of_length m n
  have lb := @lt_of_length n m
  generalize limbs m = a at *
  generalize limbs n = b at *
  refine ret_of_awp tab Tryz.func149 rfl rfl (Nat.le_of_ble_eq_true rfl) (fun w0 F0 => ?_)
  repeat' (first | refine wG ?_ | refine rg 8 8 ?_ | refine rg 10 8 ?_ | refine wS ?_ ?_ <;> intro _ | refine finG ?_)
  · have := la (by omega)
    simp only [cmpN, this, if_true]
  · have := lb (by omega)
    simp only [cmpN, show ¬ m < n by omega, this, if_true, if_false]
  · rename_i h
    refine awp_loop1 (fun i : Nat => ([(0, .d (u32s a)), (1, .d (u32s b)), (5, .d (.int .i64 ((i : Int) - 1)))], [])) (fun i => i ≤ a.length ∧ a.drop i = b.drop i) (fun i => i) a.length ⟨Nat.le_refl _, by simp; omega⟩ ⟨rfl, rfl, rfl, rfl⟩ trivial (fun i hi => ?_)
    obtain ⟨h1, h2⟩ := hi
    repeat' (first | refine wG ?_ | refine rg 8 8 ?_ | refine rg 10 8 ?_ | refine wS ?_ ?_ <;> intro _ | refine finG ?_)
    all_goals first | have e : ((i : Int) - 1).toNat = i - 1 := by omega
    · rename_i h3 h7
      have h6 : i - 1 + 1 = i := by omega
      rw [← h6] at h2
      have := val_lt_of wa (by omega) (by omega) h2 (by rw [e] at h7; omega)
      simp [cmpN, show m < n by omega]
    · rename_i h3 h8 h7
      have h6 : i - 1 + 1 = i := by omega
      rw [← h6] at h2
      have := val_lt_of wb (by omega) (by omega) h2.symm (by rw [e] at h7; omega)
      simp [cmpN, show n < m by omega, show ¬ m < n by omega]
    · rename_i h3 h7 h8
      have h6 : i - 1 + 1 = i := by omega
      rw [← h6] at h2
      rw [e] at h7 h8
      have h9 : a.getD (i - 1) 0 = b.getD (i - 1) 0 := by omega
      exact ⟨i - 1, ⟨by omega, drop_eq_of (by omega) (by omega) h2 h9⟩, by omega, ⟨rfl, rfl, iv (by omega), rfl⟩, trivial⟩
    · have : i = 0 := by omega
      subst this
      have : a = b := by simpa using h2
      simp [cmpN, show ¬ n < m by rw [← va, ← vb, this]; omega, show ¬ m < n by rw [← va, ← vb, this]; omega]

theorem add_step {a b l : List Nat} {c s x y : Nat} (ha : WF a) (hb : WF b) (hl : WF l) (hc : c ≤ 1) (hv : val l + c * B ^ l.length = val (a.take l.length) + val (b.take l.length)) (hs : s = a.getD l.length 0 + b.getD l.length 0 + c) (hx : x = s % 4294967296) (hy : y = s / 4294967296) :
    WF (l ++ [x]) ∧ y ≤ 1 ∧ val (l ++ [x]) + y * B ^ (l ++ [x]).length = val (a.take (l ++ [x]).length) + val (b.take (l ++ [x]).length) := by
  subst hx hy
  have h1 := ha.getD l.length
  have h2 := hb.getD l.length
  simp only [B_val] at h1 h2
  refine ⟨hl.snoc (by rw [B_val]; omega), by omega, ?_⟩
  rw [val_snoc, List.length_append, List.length_singleton, val_take_succ, val_take_succ, Nat.pow_succ]
  have h3 : s % 4294967296 + s / 4294967296 * B = s := by rw [B_val]; omega
  have h4 : B ^ l.length * (s % 4294967296) + s / 4294967296 * (B ^ l.length * B) = B ^ l.length * s := by
    conv => rhs; rw [← h3, Nat.mul_add]
    rw [← Nat.mul_assoc, Nat.mul_comm (s / 4294967296), Nat.mul_assoc]
  rw [Nat.add_assoc, h4, hs, Nat.mul_add, Nat.mul_add]
  rw [Nat.mul_comm c] at hv
  omega

theorem ref01_Add (a b : List Nat) (hla : a.length < 1000000000000) (hlb : b.length < 1000000000000) (wa : WF a) (wb : WF b) : Ret Tryz.prog 87 [u32s a, u32s b] (· = u32s (limbs (nv a + nv b))) := by
  have va : val (takeL a) = nv a := rfl
  have vb : val (takeL b) = nv b := rfl
  have wa' := wf_takeL wa
  have wb' := wf_takeL wb
  have la := takeL_le a
  have lb := takeL_le b
  refine ret_of_awp tab Tryz.func87 rfl rfl (Nat.le_of_ble_eq_true rfl) (fun w0 F0 => ?_)
  repeat' (first | refine wG ?_ | refine cl 122 tt rfl rfl rfl (hr := ref01_Take _ (by omega)) (k := ?_) | refine wS ?_ ?_ <;> intro _ | refine finG ?_)
  generalize takeL a = a' at *
  generalize takeL b = b' at *
  refine awp_adopt 5 35 56 1 (eN .u32) 0 rfl ?_
  refine awp_loop2 (fun (l : List Nat) (c : Nat) => ([(0, .d (u32s a')), (1, .d (u32s b')), (5, .own 35 0 l.length 56 1), (6, .d (.int .u64 c)), (7, .d (.int .i64 l.length))], [(35, .data 56 1 (eN .u32) 0 l)])) (fun l c => l.length ≤ a'.length + b'.length + 1 ∧ WF l ∧ c ≤ 1 ∧ val l + c * B ^ l.length = val (a'.take l.length) + val (b'.take l.length)) (fun l c => a'.length + b'.length + 2 - l.length) [] 0 ⟨by simp, WF.nil, by simp, by simp [val]⟩ ⟨rfl, rfl, rfl, rfl, rfl, rfl⟩ ⟨rfl, trivial⟩ (fun l c hi => ?_)
  obtain ⟨h1, h2, h3, h4⟩ := hi
  have g1 := wa'.getD l.length
  have g2 := wb'.getD l.length
  simp only [B_val] at g1 g2
  repeat' (first | refine wG ?_ | refine cl 128 tt rfl rfl rfl (hr := ref01_limb _ _ _ (Int.toNat_natCast _) (by omega) wa' (by omega) (by omega)) (k := ?_) | refine cl 128 tt rfl rfl rfl (hr := ref01_limb _ _ _ (Int.toNat_natCast _) (by omega) wb' (by omega) (by omega)) (k := ?_) | refine cl 129 tt rfl rfl rfl (hr := ref01_trim _ (by omega)) (k := ?_) | refine wS ?_ ?_ <;> intro _ | refine finG ?_)
  · rename_i h
    refine ⟨_, (a'.getD l.length 0 + b'.getD l.length 0 + c) / 4294967296, ⟨?_, add_step wa' wb' h2 h3 h4 rfl ?_ rfl⟩, ?_, ⟨rfl, rfl, rfl, iv (by omega), iv (by simp), rfl⟩, rfl, trivial⟩
    · simp only [List.length_append, List.length_singleton]; omega
    · omega
    · simp only [List.length_append, List.length_singleton]; omega
  · rename_i h
    show u32s _ = u32s _
    have g3 := val_lt wa'
    have g4 := val_lt wb'
    have g5 : a'.length + 1 ≤ l.length := by omega
    have g6 : b'.length + 1 ≤ l.length := by omega
    rw [val_take_all a' (by omega), val_take_all b' (by omega)] at h4
    have g7 := Nat.pow_le_pow_right (show 0 < B by decide) g5
    have g8 := Nat.pow_le_pow_right (show 0 < B by decide) g6
    rw [Nat.pow_succ, B_val] at g7 g8
    rw [B_val] at g3 g4 h4
    have g9 : c = 0 := by
      refine Nat.le_zero.1 (Nat.le_of_not_lt fun hc => ?_)
      have := Nat.mul_le_mul_right (4294967296 ^ l.length) (show 1 ≤ c from hc)
      omega
    subst g9
    rw [trimL_limbs h2, show val l = nv a + nv b by omega]
end Go.Proofs.YtoppaphffnojdaaGreat

/-
  Lists of limbs: lengths of results, digits and bits. Conditions: none.
-/
namespace Go.Vw

abbrev ln (n : Nat) : Nat := (limbs n).length
theorem lt_ln (n : Nat) : n < B ^ ln n := lt_pow_length n
theorem ln_le {n k : Nat} (h : n < B ^ k) : ln n ≤ k := length_limbs_le h
theorem ln_mono {m n : Nat} (h : m ≤ n) : ln m ≤ ln n := limbs_len_mono h
theorem ln_add (m n : Nat) : ln (m + n) ≤ ln m + ln n + 1 := by
  refine ln_le ?_
  have h1 := lt_ln m
  have h2 := lt_ln n
  have h3 : B ^ ln m ≤ B ^ (ln m + ln n) := Nat.pow_le_pow_right (by decide) (by omega)
  have h4 : B ^ ln n ≤ B ^ (ln m + ln n) := Nat.pow_le_pow_right (by decide) (by omega)
  rw [Nat.pow_succ]
  have : B ^ (ln m + ln n) * 2 ≤ B ^ (ln m + ln n) * B := Nat.mul_le_mul_left _ (by decide)
  omega
theorem ln_add1 {m n k : Nat} (h1 : ln m ≤ k) (h2 : ln n ≤ k) : ln (m + n) ≤ k + 1 := by
  refine ln_le ?_
  have h1' := Nat.lt_of_lt_of_le (lt_ln m) (Nat.pow_le_pow_right (show 0 < B by decide) h1)
  have h2' := Nat.lt_of_lt_of_le (lt_ln n) (Nat.pow_le_pow_right (show 0 < B by decide) h2)
  rw [Nat.pow_succ]
  have : B ^ k * 2 ≤ B ^ k * B := Nat.mul_le_mul_left _ (by decide)
  omega
theorem ln_mul (m n : Nat) : ln (m * n) ≤ ln m + ln n := by
  refine ln_le ?_
  rw [Nat.pow_add]
  by_cases h : n = 0
  · subst h; exact Nat.mul_pos (Nat.pow_pos (by decide)) (Nat.pow_pos (by decide))
  · exact Nat.mul_lt_mul_of_lt_of_le (lt_ln m) (Nat.le_of_lt (lt_ln n)) (Nat.pow_pos (by decide))
theorem ln_one : ln 1 = 1 := by simp [ln, limbs, B_val]
theorem ln_small {n : Nat} (h : n < B) : ln n ≤ 1 := ln_le (by simpa using h)
theorem limbs_small {n : Nat} (h : n < B) (h0 : n ≠ 0) : limbs n = [n] := by
  rw [limbs_pos h0, Nat.mod_eq_of_lt h, Nat.div_eq_of_lt h, limbs_zero]
theorem nv_val {l : List Nat} (h : valid l = true) : nv l = val l := by simp [nv, takeL, h]
theorem limbs_val {l : List Nat} (h : WF l) (hv : valid l = true) : limbs (val l) = l := by
  rw [← trimL_limbs h, valid_trim hv]
theorem limbs_nv {l : List Nat} (h : WF l) (hv : valid l = true) : limbs (nv l) = l := by rw [nv_val hv, limbs_val h hv]

theorem getD_limbs (n i : Nat) : (limbs n).getD i 0 = n / B ^ i % B := by
  induction i generalizing n with
  | zero =>
    by_cases h : n = 0
    · subst h; simp [limbs_zero]
    · rw [limbs_pos h]; simp
  | succ i ih =>
    by_cases h : n = 0
    · subst h; simp [limbs_zero]
    · rw [limbs_pos h, List.getD_cons_succ, ih, Nat.pow_succ, Nat.mul_comm, ← Nat.div_div_eq_div_mul]

theorem bit_of_limb (n i : Nat) : (limbs n).getD (i / 32) 0 / 2 ^ (i % 32) % 2 = n / 2 ^ i % 2 := by
  rw [getD_limbs]
  have e : n / 2 ^ i = n / B ^ (i / 32) / 2 ^ (i % 32) := by
    rw [Nat.div_div_eq_div_mul, B_val, show (4294967296 : Nat) = 2 ^ 32 from rfl, ← Nat.pow_mul, ← Nat.pow_add, Nat.div_add_mod]
  rw [e]
  generalize n / B ^ (i / 32) = x
  have h : i % 32 < 32 := Nat.mod_lt _ (by decide)
  generalize i % 32 = r at h
  have hB : B = 2 ^ r * (2 * 2 ^ (31 - r)) := by
    rw [← Nat.mul_assoc, Nat.mul_comm (2 ^ r), Nat.mul_assoc, ← Nat.pow_add, show r + (31 - r) = 31 by omega]
  rw [hB, Nat.mod_mul_right_div_self, Nat.mod_mul_right_mod]
theorem div_pow_step (a k : Nat) (h : 0 < k) : a / 2 ^ (k - 1) = 2 * (a / 2 ^ k) + a / 2 ^ (k - 1) % 2 := by
  have e : a / 2 ^ k = a / 2 ^ (k - 1) / 2 := by
    rw [Nat.div_div_eq_div_mul, ← Nat.pow_succ, show (k - 1).succ = k by omega]
  rw [e]; omega
theorem div_bits_zero (n : Nat) : n / 2 ^ (32 * ln n) = 0 := by
  refine Nat.div_eq_of_lt ?_
  rw [Nat.pow_mul]
  exact lt_ln n
end Go.Vw

/-
  Laws of machine words: borrow, halves, powers. Conditions: as each says.
-/
namespace Go.Vw

theorem bit31 (n : Nat) : n.testBit 31 = decide (n / 2147483648 % 2 = 1) := by rw [Nat.testBit_eq_decide_div_mod_eq]
theorem ones31 : (4294967295 : Nat).testBit 31 = true := by decide
theorem borrow_law {x y b d : Nat} (hx : x < 4294967296) (hy : y < 4294967296) (hb : b ≤ 1) (hd : d < 4294967296) (e : (d : Int) = (x : Int) - y - b + (if x < y + b then 4294967296 else 0)) :
    (((4294967295 ^^^ x) &&& y) ||| ((4294967295 ^^^ (x ^^^ y)) &&& d)) / 2147483648 = if x < y + b then 1 else 0 := by
  have hN : (((4294967295 ^^^ x) &&& y) ||| ((4294967295 ^^^ (x ^^^ y)) &&& d)) < 4294967296 := by
    have h1 : ((4294967295 ^^^ x) &&& y) < 2 ^ 32 := Nat.lt_of_le_of_lt Nat.and_le_right hy
    have h2 : ((4294967295 ^^^ (x ^^^ y)) &&& d) < 2 ^ 32 := Nat.lt_of_le_of_lt Nat.and_le_right hd
    exact Nat.or_lt_two_pow h1 h2
  have ht : (((4294967295 ^^^ x) &&& y) ||| ((4294967295 ^^^ (x ^^^ y)) &&& d)).testBit 31 = ((!x.testBit 31 && y.testBit 31) || (!(x.testBit 31 ^^ y.testBit 31) && d.testBit 31)) := by
    simp only [Nat.testBit_or, Nat.testBit_and, Nat.testBit_xor, ones31, Bool.true_bne, Bool.true_xor]
  generalize (((4294967295 ^^^ x) &&& y) ||| ((4294967295 ^^^ (x ^^^ y)) &&& d)) = N at *
  rw [bit31 N, bit31 x, bit31 y, bit31 d] at ht
  have hxl : x / 2147483648 % 2 = 1 ∨ x / 2147483648 % 2 = 0 := by omega
  have hyl : y / 2147483648 % 2 = 1 ∨ y / 2147483648 % 2 = 0 := by omega
  have hdl : d / 2147483648 % 2 = 1 ∨ d / 2147483648 % 2 = 0 := by omega
  rcases hxl with h1 | h1 <;> rcases hyl with h2 | h2 <;> rcases hdl with h3 | h3 <;> rw [h1, h2, h3] at ht <;> simp at ht <;> split at e <;> split <;> omega

theorem or_halves (a b : Nat) (hb : b < 4294967296) : (a * 4294967296) ||| b = a * 4294967296 + b := by
  have := Nat.shiftLeft_add_eq_or_of_lt (i := 32) (b := b) hb a
  rw [Nat.shiftLeft_eq] at this
  exact this.symm
theorem or_low (a b k : Nat) (hb : b < 2 ^ k) : (a * 2 ^ k) ||| b = a * 2 ^ k + b := by
  have := Nat.shiftLeft_add_eq_or_of_lt (i := k) (b := b) hb a
  rw [Nat.shiftLeft_eq] at this
  exact this.symm

/-! ## Long division -/

def est (b u3 v2 : Nat) : Nat := min (u3 / v2) (b - 1)
theorem est_lt {b : Nat} (hb : 0 < b) (u v : Nat) : est b u v < b := by unfold est; omega
section
variable {b t u0 v1 v0 q r : Nat} (hb : 1 < b) (hv : 0 < v1) (he : q * v1 + r = t)
include hb hv he
theorem est_go (hu0 : u0 < b) (hq : est b (t * b + u0) (v1 * b + v0) ≤ q) (hgo : b ≤ q ∨ r * b + u0 < q * v0) :
    1 ≤ q ∧ est b (t * b + u0) (v1 * b + v0) ≤ q - 1 ∧ (q - 1) * v1 + (r + v1) = t := by
  have hvb : 0 < v1 * b := Nat.mul_pos hv (by omega)
  have hq1 : 1 ≤ q := by
    rcases hgo with h | h
    · omega
    · rcases Nat.eq_zero_or_pos q with e | e
      · subst e; rw [Nat.zero_mul] at h; omega
      · exact e
  refine ⟨hq1, ?_, ?_⟩
  · rcases hgo with h | h
    · have := est_lt (show 0 < b by omega) (t * b + u0) (v1 * b + v0); omega
    · have : (t * b + u0) / (v1 * b + v0) < q := by
        rw [Nat.div_lt_iff_lt_mul (by omega), Nat.mul_add, ← Nat.mul_assoc, ← he, Nat.add_mul]
        omega
      unfold est; omega
  · obtain ⟨p, rfl⟩ : ∃ p, q = p + 1 := ⟨q - 1, by omega⟩
    rw [Nat.add_mul] at he
    rw [Nat.add_sub_cancel]
    omega
theorem est_done (hv0 : v0 < b) (hq : est b (t * b + u0) (v1 * b + v0) ≤ q) (hB : r < b ∨ q < b) (hst : r < b → q < b ∧ q * v0 ≤ r * b + u0) : q = est b (t * b + u0) (v1 * b + v0) := by
  have hvb : 0 < v1 * b := Nat.mul_pos hv (by omega)
  have hqB : q < b := by rcases hB with h | h; exact (hst h).1; exact h
  have hle : q * v0 ≤ r * b + u0 := by
    rcases Nat.lt_or_ge r b with h | h
    · exact (hst h).2
    · have h1 : q * v0 ≤ b * b := Nat.mul_le_mul (by omega) (by omega)
      have h2 : b * b ≤ r * b := Nat.mul_le_mul_right _ h
      omega
  have : q ≤ (t * b + u0) / (v1 * b + v0) := by
    rw [Nat.le_div_iff_mul_le (by omega), Nat.mul_add, ← Nat.mul_assoc, ← he, Nat.add_mul]
    omega
  unfold est at hq ⊢; omega
end
theorem est_digit {b W V U3 V2 wl vl P : Nat} (hb : 0 < b) (hP : 0 < P) (hW : W = U3 * P + wl) (hwl : wl < P) (hV : V = V2 * P + vl) (hvl : vl < P) (hV2 : b ≤ V2) (hlt : W < V * b) : W / V ≤ est b U3 V2 ∧ est b U3 V2 ≤ W / V + 1 := by
  have hV0 : 0 < V := by rw [hV]; have := Nat.mul_pos (show 0 < V2 by omega) hP; omega
  constructor
  · have h1 : W / V < b := by rw [Nat.div_lt_iff_lt_mul hV0, Nat.mul_comm]; exact hlt
    have h2 : W / V ≤ U3 / V2 := by
      rw [Nat.le_div_iff_mul_le (by omega)]
      have h3 := Nat.div_mul_le_self W V
      generalize W / V = q at *
      have h4 : q * V2 * P ≤ W := by
        refine Nat.le_trans ?_ h3
        rw [hV, Nat.mul_add, Nat.mul_assoc]; omega
      have h5 : q * V2 * P < (U3 + 1) * P := by rw [Nat.add_mul]; omega
      have := Nat.lt_of_mul_lt_mul_right h5
      omega
    unfold est; omega
  · obtain ⟨e, he⟩ : ∃ e, est b U3 V2 = e := ⟨_, rfl⟩
    rw [he]
    have h1 : e < b := by rw [← he]; exact est_lt hb _ _
    have h2 : e * V2 ≤ U3 := by
      have : e ≤ U3 / V2 := by rw [← he]; unfold est; omega
      exact Nat.le_trans (Nat.mul_le_mul_right _ this) (Nat.div_mul_le_self _ _)
    rcases Nat.eq_zero_or_pos e with h0 | h0
    · rw [h0]; exact Nat.zero_le _
    · obtain ⟨p, rfl⟩ : ∃ p, e = p + 1 := ⟨e - 1, by omega⟩
      have : p ≤ W / V := by
        rw [Nat.le_div_iff_mul_le hV0, hV, hW, Nat.mul_add]
        have h3 : p * vl ≤ p * P := Nat.mul_le_mul_left _ (by omega)
        have h4 : (p * V2 + p) * P ≤ U3 * P := by
          refine Nat.mul_le_mul_right _ ?_
          rw [Nat.add_mul] at h2
          omega
        rw [Nat.add_mul, Nat.mul_assoc] at h4
        omega
      exact Nat.succ_le_succ this
end Go.Vw

set_option maxHeartbeats 8000000
namespace Go.Proofs.YtoppaphffnojdaaGreat
open Go.Vw
attribute [local irreducible] awp awpL awpR

theorem bits_Add32 (x y c : Nat) (hx : x < 4294967296) (hy : y < 4294967296) (hc : c ≤ 1) : Ret Tryz.prog 139 [.int .u32 x, .int .u32 y, .int .u32 c] (· = .tup [.int .u32 ((x + y + c : Nat) % 4294967296 : Nat), .int .u32 ((x + y + c : Nat) / 4294967296 : Nat)]) := by
  refine ret_of_awp tab Tryz.func139 rfl rfl (Nat.le_of_ble_eq_true rfl) (fun w0 F0 => ?_)
  repeat' (first | refine wG ?_ | refine wS ?_ ?_ <;> intro _ | refine finTG ?_)
  refine LeT.cons (LeD.eqi ?_) (LeT.cons (LeD.eqi ?_) LeT.nil) <;> omega
theorem bits_Sub32 (x y c : Nat) (hx : x < 4294967296) (hy : y < 4294967296) (hc : c ≤ 1) : Ret Tryz.prog 144 [.int .u32 x, .int .u32 y, .int .u32 c] (· = .tup [.int .u32 ((x : Int) - y - c + (if x < y + c then 4294967296 else 0)), .int .u32 (if x < y + c then 1 else 0)]) := by
  have hd : ((((x : Int) - y) % 4294967296 - c) % 4294967296) = (x : Int) - y - c + (if x < y + c then 4294967296 else 0) := by split <;> omega
  have hd0 : 0 ≤ ((((x : Int) - y) % 4294967296 - c) % 4294967296) ∧ ((((x : Int) - y) % 4294967296 - c) % 4294967296) < 4294967296 := by omega
  have hA : ((4294967296 - 1 : Int).toNat ^^^ (x : Int).toNat) < 4294967296 := Nat.xor_lt_two_pow (n := 32) (by decide) (by simpa using hx)
  have hX : ((x : Int).toNat ^^^ (y : Int).toNat) < 4294967296 := Nat.xor_lt_two_pow (n := 32) (by simpa using hx) (by simpa using hy)
  have hY : ((4294967296 - 1 : Int).toNat ^^^ ((((x : Int).toNat ^^^ (y : Int).toNat : Nat) : Int)).toNat) < 4294967296 := Nat.xor_lt_two_pow (n := 32) (by decide) (by simpa using hX)
  have hP : ((((4294967296 - 1 : Int).toNat ^^^ (x : Int).toNat : Nat) : Int).toNat &&& (y : Int).toNat) < 4294967296 := Nat.lt_of_le_of_lt Nat.and_le_right (by simpa using hy)
  have hQ : (((((4294967296 - 1 : Int).toNat ^^^ ((((x : Int).toNat ^^^ (y : Int).toNat : Nat) : Int)).toNat : Nat) : Int)).toNat &&& ((((x : Int) - y) % 4294967296 - c) % 4294967296).toNat) < 4294967296 := Nat.lt_of_le_of_lt Nat.and_le_right (by omega)
  obtain ⟨d, hdd⟩ : ∃ d : Nat, ((((x : Int) - y) % 4294967296 - c) % 4294967296) = d := ⟨((((x : Int) - y) % 4294967296 - c) % 4294967296).toNat, by omega⟩
  have law := borrow_law (d := d) hx hy hc (by omega) (by rw [← hdd, hd])
  refine ret_of_awp tab Tryz.func144 rfl rfl (Nat.le_of_ble_eq_true rfl) (fun w0 F0 => ?_)
  repeat' (first | refine wG ?_ | refine wS ?_ ?_ <;> intro _ | refine finTG ?_)
  refine LeT.cons (LeD.eqi ?_) (LeT.cons (LeD.eqi ?_) LeT.nil)
  · exact hd
  · rw [hdd]
    simp only [Int.toNat_natCast, show (4294967296 - 1 : Int).toNat = 4294967295 from rfl]
    have e : ∀ n : Nat, ((n : Nat) : Int) / 2147483648 = ((n / 2147483648 : Nat) : Int) := fun n => by omega
    rw [e, law]
    split <;> rfl
theorem bits_Div32 (h l d : Nat) (hh : h < d) (hl : l < 4294967296) (hd : d < 4294967296) : Ret Tryz.prog 153 [.int .u32 h, .int .u32 l, .int .u32 d] (· = .tup [.int .u32 ((h * 4294967296 + l) / d : Nat), .int .u32 ((h * 4294967296 + l) % d : Nat)]) := by
  have ho := or_halves h l hl
  have e1 : ((h : Int) * 4294967296).toNat = h * 4294967296 := by omega
  have e2 : (((h : Int) * 4294967296).toNat ||| ((l : Int)).toNat) = h * 4294967296 + l := by rw [e1, Int.toNat_natCast, ho]
  refine ret_of_awp tab Tryz.func153 rfl rfl (Nat.le_of_ble_eq_true rfl) (fun w0 F0 => ?_)
  repeat' (first | refine wG ?_ | refine rg 4 11 ?_ | refine wS ?_ ?_ <;> intro _ | refine finTG ?_)
  rw [e2]
  have q1 : (h * 4294967296 + l) / d < 4294967296 := by
    rw [Nat.div_lt_iff_lt_mul (by omega)]
    have := Nat.mul_le_mul_right 4294967296 (show h + 1 ≤ d from hh)
    rw [Nat.mul_comm 4294967296]; omega
  have q2 : (h * 4294967296 + l) % d < 4294967296 := Nat.lt_trans (Nat.mod_lt _ (by omega)) hd
  generalize h * 4294967296 + l = n at *
  refine LeT.cons (LeD.eqi ?_) (LeT.cons (LeD.eqi ?_) LeT.nil)
  · rw [← Int.natCast_ediv]; exact Int.emod_eq_of_lt (Int.natCast_nonneg _) (Int.ofNat_lt.2 q1)
  · rw [← Int.natCast_emod]; exact Int.emod_eq_of_lt (Int.natCast_nonneg _) (Int.ofNat_lt.2 q2)
end Go.Proofs.YtoppaphffnojdaaGreat

/-
  Sums, differences and products of lists of limbs, limb by limb into a row that lies ready. Conditions: as each says.
-/
namespace Go.Vw
theorem take_set_succ (l : List Nat) (i x : Nat) (h : i < l.length) : (l.set i x).take (i + 1) = l.take i ++ [x] := by
  rw [List.take_add_one, List.take_set_of_le (Nat.le_refl _)]
  simp [h]
theorem val_take_set (l : List Nat) (i x : Nat) (h : i < l.length) : val ((l.set i x).take (i + 1)) = val (l.take i) + B ^ i * x := by
  rw [take_set_succ l i x h, val_snoc, List.length_take, Nat.min_eq_left (by omega)]
theorem wf_replicate (n : Nat) : WF (List.replicate n 0) := fun x hx => by
  have := List.eq_of_mem_replicate hx
  subst this; decide
theorem getD_take_le (l : List Nat) (i : Nat) (h : l.length ≤ i) : l.getD i 0 = 0 := by
  rw [List.getD_eq_getElem?_getD, List.getElem?_eq_none h]; rfl
theorem addL_step {a b o : List Nat} {i c : Nat} (ha : WF a) (hb : WF b) (ho : WF o) (hi : i < o.length) (hc : c ≤ 1) (hv : val (o.take i) + c * B ^ i = val (a.take i) + val (b.take i)) :
    WF (o.set i ((a.getD i 0 + b.getD i 0 + c) % 4294967296)) ∧ (a.getD i 0 + b.getD i 0 + c) / 4294967296 ≤ 1 ∧ val ((o.set i ((a.getD i 0 + b.getD i 0 + c) % 4294967296)).take (i + 1)) + (a.getD i 0 + b.getD i 0 + c) / 4294967296 * B ^ (i + 1) = val (a.take (i + 1)) + val (b.take (i + 1)) := by
  have h1 := ha.getD i
  have h2 := hb.getD i
  simp only [B_val] at h1 h2
  refine ⟨ho.set _ (by rw [B_val]; omega), by omega, ?_⟩
  rw [val_take_set o i _ hi, val_take_succ a, val_take_succ b, Nat.pow_succ]
  obtain ⟨s, hs⟩ : ∃ s, a.getD i 0 + b.getD i 0 + c = s := ⟨_, rfl⟩
  rw [hs]
  have h3 : s % 4294967296 + s / 4294967296 * B = s := by rw [B_val]; omega
  have h4 : B ^ i * (s % 4294967296) + s / 4294967296 * (B ^ i * B) = B ^ i * s := by
    conv => rhs; rw [← h3, Nat.mul_add]
    rw [← Nat.mul_assoc, Nat.mul_comm (s / 4294967296), Nat.mul_assoc]
  rw [Nat.add_assoc, h4, ← hs, Nat.mul_add, Nat.mul_add]
  rw [Nat.mul_comm c] at hv
  omega
theorem subL_step {a b o : List Nat} {i c : Nat} (ha : WF a) (hb : WF b) (ho : WF o) (hi : i < o.length) (hc : c ≤ 1) {d : Nat} (hv : val (o.take i) + val (b.take i) = val (a.take i) + c * B ^ i) (hd : (d : Int) = (a.getD i 0 : Int) - b.getD i 0 - c + (if a.getD i 0 < b.getD i 0 + c then 4294967296 else 0)) :
    WF (o.set i d) ∧ val ((o.set i d).take (i + 1)) + val (b.take (i + 1)) = val (a.take (i + 1)) + (if a.getD i 0 < b.getD i 0 + c then 1 else 0) * B ^ (i + 1) := by
  have h1 := ha.getD i
  have h2 := hb.getD i
  simp only [B_val] at h1 h2
  refine ⟨ho.set _ (by rw [B_val]; split at hd <;> omega), ?_⟩
  rw [val_take_set o i _ hi, val_take_succ a, val_take_succ b, Nat.pow_succ]
  obtain ⟨x, hx⟩ : ∃ x, a.getD i 0 = x := ⟨_, rfl⟩
  obtain ⟨y, hy⟩ : ∃ y, b.getD i 0 = y := ⟨_, rfl⟩
  rw [hx, hy] at hd ⊢
  obtain ⟨e, he, hde⟩ : ∃ e, (if x < y + c then 1 else 0) = e ∧ d + y + c = x + e * B := by
    refine ⟨_, rfl, ?_⟩
    rw [B_val]
    split at hd <;> split <;> omega
  rw [he]
  have h4 : B ^ i * d + B ^ i * y + B ^ i * c = B ^ i * x + e * (B ^ i * B) := by
    rw [← Nat.mul_add, ← Nat.mul_add, hde, Nat.mul_add]
    congr 1
    rw [← Nat.mul_assoc, ← Nat.mul_assoc, Nat.mul_comm (B ^ i) e]
  rw [Nat.mul_comm c] at hv
  omega
theorem val_drop (l : List Nat) (i : Nat) (h : i < l.length) : val (l.drop i) = l.getD i 0 + B * val (l.drop (i + 1)) := by
  rw [List.drop_eq_getElem_cons h, val]
  rw [List.getD_eq_getElem?_getD, List.getElem?_eq_getElem h]; rfl
theorem val_set (l : List Nat) (k x : Nat) (h : k < l.length) : val (l.set k x) + B ^ k * l.getD k 0 = val l + B ^ k * x := by
  have h1 := val_split l k h
  have h2 := val_split (l.set k x) k (by simpa using h)
  rw [List.take_set_of_le (Nat.le_refl _), List.drop_set_of_lt (by omega)] at h2
  have h3 : (l.set k x).getD k 0 = x := by simp [List.getD_eq_getElem?_getD, h]
  rw [h3] at h2
  rw [h1, h2, Nat.mul_add, Nat.mul_add]
  omega
theorem mulL_step {o : List Nat} {k n c x y S T : Nat} (ho : WF o) (hk : k < n) (hn : n ≤ o.length) (hx : x < 4294967296) (hy : y < 4294967296) (hc : c < 4294967296) (hv : val (o.take n) + c * B ^ k = S + T) :
    x * y + o.getD k 0 + c < 18446744073709551616 ∧ WF (o.set k ((x * y + o.getD k 0 + c) % 4294967296)) ∧ (x * y + o.getD k 0 + c) / 4294967296 < 4294967296 ∧ val ((o.set k ((x * y + o.getD k 0 + c) % 4294967296)).take n) + (x * y + o.getD k 0 + c) / 4294967296 * B ^ (k + 1) = S + (T + B ^ k * (x * y)) := by
  have h1 := ho.getD k
  simp only [B_val] at h1
  have hxy : x * y ≤ 4294967295 * 4294967295 := Nat.mul_le_mul (by omega) (by omega)
  refine ⟨by omega, ho.set _ (by rw [B_val]; omega), by omega, ?_⟩
  rw [List.take_set]
  have hg : (o.take n).getD k 0 = o.getD k 0 := by simp [List.getD_eq_getElem?_getD, List.getElem?_take, hk]
  have h2 := val_set (o.take n) k ((x * y + o.getD k 0 + c) % 4294967296) (by simp; omega)
  rw [hg] at h2
  obtain ⟨s, hs⟩ : ∃ s, x * y + o.getD k 0 + c = s := ⟨_, rfl⟩
  rw [hs] at h2 ⊢
  have h3 : s % 4294967296 + s / 4294967296 * B = s := by rw [B_val]; omega
  have h4 : B ^ k * (s % 4294967296) + s / 4294967296 * (B ^ k * B) = B ^ k * (x * y) + B ^ k * o.getD k 0 + B ^ k * c := by
    rw [← Nat.mul_add, ← Nat.mul_add, hs]
    conv => rhs; rw [← h3, Nat.mul_add]
    rw [← Nat.mul_assoc, Nat.mul_comm (s / 4294967296), Nat.mul_assoc]
  rw [Nat.pow_succ]
  rw [Nat.mul_comm c] at hv
  omega
theorem shortL_step {a q : List Nat} {i d r : Nat} (ha : WF a) (hq : WF q) (hi : i < a.length) (hqi : i < q.length) (hd : 0 < d) (hdB : d < 4294967296) (hr : r < d) (hv : val (a.drop (i + 1)) = val (q.drop (i + 1)) * d + r) :
    (r * 4294967296 + a.getD i 0) / d < 4294967296 ∧ (r * 4294967296 + a.getD i 0) % d < d ∧ WF (q.set i ((r * 4294967296 + a.getD i 0) / d)) ∧ val (a.drop i) = val ((q.set i ((r * 4294967296 + a.getD i 0) / d)).drop i) * d + (r * 4294967296 + a.getD i 0) % d := by
  have h1 := ha.getD i
  simp only [B_val] at h1
  have hlt : (r * 4294967296 + a.getD i 0) / d < 4294967296 := by
    rw [Nat.div_lt_iff_lt_mul hd]
    have := Nat.mul_le_mul_right 4294967296 (show r + 1 ≤ d from hr)
    rw [Nat.mul_comm 4294967296]; omega
  refine ⟨hlt, Nat.mod_lt _ hd, hq.set _ (by rw [B_val]; exact hlt), ?_⟩
  rw [val_drop a i hi, val_drop (q.set i _) i (by simpa using hqi), List.drop_set_of_lt (by omega), hv]
  have h3 : (q.set i ((r * 4294967296 + a.getD i 0) / d)).getD i 0 = (r * 4294967296 + a.getD i 0) / d := by simp [List.getD_eq_getElem?_getD, hqi]
  rw [h3]
  have h4 := Nat.div_add_mod (r * 4294967296 + a.getD i 0) d
  generalize (r * 4294967296 + a.getD i 0) % d = f at *
  generalize (r * 4294967296 + a.getD i 0) / d = e at *
  rw [Nat.mul_comm d] at h4
  rw [Nat.add_mul, Nat.mul_add, B_val, Nat.mul_assoc]
  omega
end Go.Vw

set_option maxHeartbeats 8000000
namespace Go.Proofs.YtoppaphffnojdaaGreat
open Go.Vw
attribute [local irreducible] awp awpL awpR

theorem sub_step {a b l : List Nat} {c x y : Nat} (ha : WF a) (hb : WF b) (hl : WF l) (hc : c ≤ 1) (hv : val l + val (b.take l.length) = val (a.take l.length) + c * B ^ l.length) (hx : x = (a.getD l.length 0 + 4294967296 - b.getD l.length 0 - c) % 4294967296) (hy : y = 1 - (a.getD l.length 0 + 4294967296 - b.getD l.length 0 - c) / 4294967296) :
    WF (l ++ [x]) ∧ y ≤ 1 ∧ val (l ++ [x]) + val (b.take (l ++ [x]).length) = val (a.take (l ++ [x]).length) + y * B ^ (l ++ [x]).length := by
  have h1 := ha.getD l.length
  have h2 := hb.getD l.length
  simp only [B_val] at h1 h2
  refine ⟨hl.snoc (by rw [B_val]; omega), by omega, ?_⟩
  rw [val_snoc, List.length_append, List.length_singleton, val_take_succ, val_take_succ, Nat.pow_succ]
  have h3 : x + b.getD l.length 0 + c = a.getD l.length 0 + y * B := by rw [B_val]; omega
  have h4 : B ^ l.length * x + B ^ l.length * b.getD l.length 0 + c * B ^ l.length = B ^ l.length * a.getD l.length 0 + y * (B ^ l.length * B) := by
    rw [Nat.mul_comm c, ← Nat.mul_add, ← Nat.mul_add, h3, Nat.mul_add, Nat.mul_comm y B, Nat.mul_comm y, ← Nat.mul_assoc]
  omega

theorem ref01_Sub (a b : List Nat) (hla : a.length < 1000000000000) (hlb : b.length < 1000000000000) (wa : WF a) (wb : WF b) : Ret Tryz.prog 125 [u32s a, u32s b] (· = .tup [u32s (limbs (nv a - nv b)), .bool (decide (nv b ≤ nv a))]) := by
  have la := length_limbs_nv wa
  have lb := length_limbs_nv wb
  have ea := takeL_limbs wa
  have eb := takeL_limbs wb
  generalize nv a = m at *
  generalize nv b = n at *
  have wa' := wf_limbs m
  have wb' := wf_limbs n
  have va := val_limbs m
  have vb := val_limbs n
  have ta := ref01_Take a (by omega)
  have tb := ref01_Take b (by omega)
  rw [ea] at ta
  rw [eb] at tb
  have hcmp := ref01_compare m n (by omega) (by omega)
  have lc := @limbs_len_mono n m
  generalize limbs m = a' at *
  generalize limbs n = b' at *
  refine ret_of_awp tab Tryz.func125 rfl rfl (Nat.le_of_ble_eq_true rfl) (fun w0 F0 => ?_)
  repeat' (first | refine wG ?_ | refine wC ta ?_ | refine wC tb ?_ | refine wC hcmp ?_ | refine wS ?_ ?_ <;> intro _ | refine finTG ?_)
  · rename_i h
    have h := (cmpN_neg m n).1 h
    rw [show m - n = 0 by omega, limbs_zero, decide_eq_false (show ¬ n ≤ m by omega)]
    exact leT
  rename_i h
  have h := mt (cmpN_neg m n).2 h
  have lc := lc (by omega)
  refine awp_adopt 6 38 56 1 (eN .u32) 0 rfl ?_
  refine awp_loop2 (fun (l : List Nat) (c : Nat) => ([(0, .d (u32s a')), (1, .d (u32s b')), (6, .own 38 0 l.length 56 1), (7, .d (.int .u64 c)), (8, .d (.int .i64 l.length))], [(38, .data 56 1 (eN .u32) 0 l)])) (fun l c => l.length ≤ a'.length ∧ WF l ∧ c ≤ 1 ∧ val l + val (b'.take l.length) = val (a'.take l.length) + c * B ^ l.length) (fun l c => a'.length - l.length) [] 0 ⟨by simp, WF.nil, by simp, by simp [val]⟩ ⟨rfl, rfl, rfl, rfl, rfl, rfl⟩ ⟨rfl, trivial⟩ (fun l c hi => ?_)
  obtain ⟨h1, h2, h3, h4⟩ := hi
  have g1 := wa'.getD l.length
  have g2 := wb'.getD l.length
  simp only [B_val] at g1 g2
  repeat' (first | refine wG ?_ | refine cl 128 tt rfl rfl rfl (hr := ref01_limb _ _ _ (Int.toNat_natCast _) (by omega) wa' (by omega) (by omega)) (k := ?_) | refine cl 128 tt rfl rfl rfl (hr := ref01_limb _ _ _ (Int.toNat_natCast _) (by omega) wb' (by omega) (by omega)) (k := ?_) | refine cl 129 tt rfl rfl rfl (hr := ref01_trim _ (by omega)) (k := ?_) | refine wS ?_ ?_ <;> intro _ | refine finTG ?_)
  · exact ⟨_, 1 - (a'.getD l.length 0 + 4294967296 - b'.getD l.length 0 - c) / 4294967296, ⟨by simp; omega, sub_step wa' wb' h2 h3 h4 (by omega) rfl⟩, by simp; omega, ⟨rfl, rfl, rfl, iv (by omega), iv (by simp), rfl⟩, rfl, trivial⟩
  · rename_i h5
    rw [val_take_all a' (by omega), val_take_all b' (by omega)] at h4
    have g3 := val_lt h2
    have g9 : c = 0 := by
      refine Nat.le_zero.1 (Nat.le_of_not_lt fun hc => ?_)
      have := Nat.mul_le_mul_right (B ^ l.length) (show 1 ≤ c from hc)
      omega
    subst g9
    rw [trimL_limbs h2, show val l = m - n by omega, decide_eq_true (show n ≤ m by omega)]
    exact leT

theorem times_step {a l : List Nat} {c s x y v by' i : Nat} (ha : WF a) (hl : WF l) (hc : c < B) (hvB : v < B) (hi : l.length = by' + i) (hv : val l + c * B ^ l.length = B ^ by' * (val (a.take i) * v)) (hs : s = a.getD i 0 * v + c) (hx : x = s % 4294967296) (hy : y = s / 4294967296) :
    WF (l ++ [x]) ∧ y < B ∧ val (l ++ [x]) + y * B ^ (l ++ [x]).length = B ^ by' * (val (a.take (i + 1)) * v) := by
  have h1 := ha.getD i
  have h0 : s < B * B := by
    have := Nat.mul_le_mul (Nat.le_sub_one_of_lt h1) (Nat.le_sub_one_of_lt hvB)
    rw [B_val] at *; omega
  refine ⟨hl.snoc (by rw [B_val]; omega), by rw [B_val] at *; omega, ?_⟩
  rw [val_snoc, List.length_append, List.length_singleton, val_take_succ, Nat.pow_succ]
  have h3 : x + y * B = s := by rw [B_val]; omega
  have h4 : B ^ l.length * x + y * (B ^ l.length * B) = B ^ l.length * s := by
    rw [← h3, Nat.mul_add, Nat.mul_comm y B, Nat.mul_comm y, Nat.mul_assoc]
  rw [Nat.add_assoc, h4, hs, Nat.mul_add, Nat.add_mul, Nat.mul_add, ← hv, hi, Nat.pow_add]
  have : B ^ by' * (B ^ i * a.getD i 0 * v) = B ^ by' * B ^ i * (a.getD i 0 * v) := by
    simp only [Nat.mul_assoc]
  rw [this, Nat.mul_comm c]; omega

theorem val_rep (n : Nat) : val (List.replicate n 0) = 0 := by
  induction n with
  | zero => rfl
  | succ n ih => rw [List.replicate_succ, val, ih]; rfl
theorem wf_rep (n : Nat) : WF (List.replicate n 0) := fun x hx => by rw [List.eq_of_mem_replicate hx]; decide

theorem ref01_times (m v k : Nat) (hm : (limbs m).length < 100000000000) (hv : v < 4294967296) (hk : k < 100000000000) : Ret Tryz.prog 150 [u32s (limbs m), .int .u32 v, .int .i64 k] (· = u32s (limbs (m * v * B ^ k))) := by
  have wa := wf_limbs m
  have va := val_limbs m
  generalize limbs m = a at *
  refine ret_of_awp tab Tryz.func150 rfl rfl (Nat.le_of_ble_eq_true rfl) (fun w0 F0 => ?_)
  repeat' (first | refine wG ?_ | refine wS ?_ ?_ <;> intro _ | refine finG ?_)
  refine awp_loop2 (fun (l : List Nat) (c : Nat) => ([(0, .d (u32s a)), (1, .d (.int .u32 v)), (7, .own 12 0 l.length 56 1), (8, .d (.int .u64 c)), (9, .d (.int .i64 (l.length - k)))], [(12, .data 56 1 (eN .u32) 0 l)])) (fun l c => k ≤ l.length ∧ l.length ≤ a.length + k + 1 ∧ WF l ∧ c < B ∧ val l + c * B ^ l.length = B ^ k * (val (a.take (l.length - k)) * v)) (fun l c => a.length + k + 1 - l.length) (List.replicate k 0) 0 ⟨by simp, by simp; omega, wf_rep _, by decide, by simp [val_rep, val]⟩ ⟨rfl, rfl, by simp; rfl, rfl, iv (by simp), rfl⟩ ⟨rfl, trivial⟩ (fun l c hi => ?_)
  obtain ⟨h1, h1', h2, h3, h4⟩ := hi
  have g1 := wa.getD (l.length - k)
  simp only [B_val] at g1 h3
  have g2 : a.getD (l.length - k) 0 * v ≤ 4294967295 * 4294967295 := Nat.mul_le_mul (by omega) (by omega)
  repeat' (first | refine wG ?_ | refine cl 128 tt rfl rfl rfl (hr := ref01_limb _ _ (l.length - k) (by omega) (by omega) wa (by omega) (by omega)) (k := ?_) | refine cl 129 tt rfl rfl rfl (hr := ref01_trim _ (by omega)) (k := ?_) | refine wS ?_ ?_ <;> intro _ | refine finG ?_)
  · rename_i h5
    exact ⟨_, (a.getD (l.length - k) 0 * v + c) / 4294967296, ⟨by simp; omega, by simp; omega, by
      have := times_step (a := a) (i := l.length - k) (by' := k) wa h2 h3 hv (by omega) h4 rfl rfl rfl
      rw [show l.length - k + 1 = (l ++ [(a.getD (l.length - k) 0 * v + c) % 4294967296]).length - k by simp; omega] at this
      rw [show (((a.getD (l.length - k) 0 : Nat) * (v : Nat) + (c : Nat) : Int) % 4294967296).toNat = (a.getD (l.length - k) 0 * v + c) % 4294967296 by omega]
      exact this⟩, by simp; omega, ⟨rfl, rfl, rfl, iv (by omega), iv (by simp; omega), rfl⟩, rfl, trivial⟩
  · rename_i h5
    rw [val_take_all a (by omega)] at h4
    have g3 := val_lt wa
    have g9 : c = 0 := by
      refine Nat.le_zero.1 (Nat.le_of_not_lt fun hc => ?_)
      have h6 := Nat.mul_le_mul_right (B ^ l.length) (show 1 ≤ c from hc)
      have h7 : val a * v < B ^ a.length * B := Nat.mul_lt_mul_of_lt_of_le g3 (by rw [B_val]; omega) (by decide)
      have h8 := Nat.mul_lt_mul_of_pos_left h7 (Nat.pow_pos (n := k) (show 0 < B by decide))
      rw [← Nat.pow_succ, ← Nat.pow_add, show k + a.length.succ = l.length by omega] at h8
      omega
    subst g9
    rw [trimL_limbs h2, ← va, show val l = val a * v * B ^ k by rw [Nat.mul_comm _ (B ^ k)]; omega]

theorem mul_len {m n k l : Nat} (h : ln m ≤ k) (h2 : ln n ≤ l) : ln (m * n) ≤ k + l := Nat.le_trans (ln_mul m n) (by omega)

theorem ref01_TakeN (n : Nat) (h : (limbs n).length < 1000000000000) : Ret Tryz.prog 122 [u32s (limbs n)] (· = u32s (limbs n)) := by
  have := ref01_Take (limbs n) (by omega)
  rw [takeL_of] at this
  exact this
theorem ref01_TakeV (l : List Nat) (wl : WF l) (h : l.length < 1000000000000) : Ret Tryz.prog 122 [u32s l] (· = u32s (limbs (nv l))) := by
  have := ref01_Take l (by omega)
  rw [takeL_limbs wl] at this
  exact this
theorem ref01_AddN (m n : Nat) (hm : (limbs m).length < 1000000000000) (hn : (limbs n).length < 1000000000000) : Ret Tryz.prog 87 [u32s (limbs m), u32s (limbs n)] (· = u32s (limbs (m + n))) := by
  have := ref01_Add (limbs m) (limbs n) hm hn (wf_limbs m) (wf_limbs n)
  rw [nv_limbs, nv_limbs] at this
  exact this
theorem ref01_SubN (m n : Nat) (hm : (limbs m).length < 1000000000000) (hn : (limbs n).length < 1000000000000) : Ret Tryz.prog 125 [u32s (limbs m), u32s (limbs n)] (· = .tup [u32s (limbs (m - n)), .bool (decide (n ≤ m))]) := by
  have := ref01_Sub (limbs m) (limbs n) hm hn (wf_limbs m) (wf_limbs n)
  rw [nv_limbs, nv_limbs] at this
  exact this

theorem ref01_Mul (a b : List Nat) (hla : a.length < 10000000000) (hlb : b.length < 10000000000) (wa : WF a) (wb : WF b) : Ret Tryz.prog 127 [u32s a, u32s b] (· = u32s (limbs (nv a * nv b))) := by
  have la := length_limbs_nv wa
  have lb := length_limbs_nv wb
  have ta := ref01_TakeV a wa (by omega)
  have tb := ref01_TakeV b wb (by omega)
  generalize nv a = m at *
  generalize nv b = n at *
  have wb' := wf_limbs n
  have vb := val_limbs n
  generalize limbs n = b' at *
  refine ret_of_awp tab Tryz.func127 rfl rfl (Nat.le_of_ble_eq_true rfl) (fun w0 F0 => ?_)
  repeat' (first | refine wG ?_ | refine wC ta ?_ | refine wC tb ?_ | refine wS ?_ ?_ <;> intro _ | refine finG ?_)
  refine awp_nils 5 1 (eN .u32) 0 rfl ?_
  refine awp_loop1 (fun (i : Nat) => ([(0, .d (u32s (limbs m))), (1, .d (u32s b')), (5, .d (u32s (limbs (m * val (b'.take i))))), (6, .d (.int .i64 i))], [])) (fun i => i ≤ b'.length) (fun i => b'.length - i) 0 (by simp) ⟨rfl, rfl, by simp [val, limbs_zero]; rfl, rfl, rfl⟩ trivial (fun i hi => ?_)
  have g1 := wb'.getD i
  simp only [B_val] at g1
  have g2 : ln (val (b'.take i)) ≤ b'.length := by
    refine ln_le (Nat.lt_of_lt_of_le (val_lt (wb'.take i)) (Nat.pow_le_pow_right (by decide) ?_))
    simp; omega
  have g3 := mul_len (m := m) (Nat.le_refl _) g2
  have g4 := mul_len (mul_len (m := m) (Nat.le_refl _) (ln_small (by rw [B_val]; exact g1))) (ln_le (n := B ^ i) (k := i + 1) (by rw [Nat.pow_succ]; have := Nat.pow_pos (n := i) (show 0 < B by decide); rw [B_val] at *; omega))
  simp only [ln] at *
  repeat' (first | refine wG ?_ | refine cl 150 tt rfl rfl rfl (hr := ref01_times _ _ _ (by omega) (by omega) (by omega)) (k := ?_) | refine cl 87 tt rfl rfl rfl (hr := ref01_AddN _ _ (by omega) (by omega)) (k := ?_) | refine wS ?_ ?_ <;> intro _ | refine finG ?_)
  · refine ⟨i + 1, by omega, by omega, ⟨rfl, rfl, ?_, iv (by simp), rfl⟩, trivial⟩
    rw [val_take_succ, Nat.mul_add, Nat.mul_assoc, Nat.mul_comm (b'.getD i 0)]; rfl
  · rw [val_take_all b' (by omega), vb]
theorem ref01_MulN (m n : Nat) (hm : (limbs m).length < 10000000000) (hn : (limbs n).length < 10000000000) : Ret Tryz.prog 127 [u32s (limbs m), u32s (limbs n)] (· = u32s (limbs (m * n))) := by
  have := ref01_Mul (limbs m) (limbs n) hm hn (wf_limbs m) (wf_limbs n)
  rw [nv_limbs, nv_limbs] at this
  exact this

theorem two_limbs (v : Nat) (h : v < 18446744073709551616) : trimL [v % 4294967296, v / 4294967296] = limbs v := by
  rw [trimL_limbs]
  · congr 1; simp only [val, B_val]; omega
  · intro x hx; simp at hx; rw [B_val]; omega
theorem ref01_FromUint (v : Nat) (h : v < 18446744073709551616) : Ret Tryz.prog 88 [.int .u64 v] (· = u32s (limbs v)) := by
  have ht := ref01_trim [v % 4294967296, v / 4294967296] (by simp)
  rw [two_limbs v h] at ht
  refine ret_of_awp tab Tryz.func88 rfl rfl (Nat.le_of_ble_eq_true rfl) (fun w0 F0 => ?_)
  repeat' (first | refine wG ?_ | refine wC ht ?_ | refine wS ?_ ?_ <;> intro _ | refine finG ?_)
  rfl
theorem ref01_bit (m i : Nat) (hm : (limbs m).length < 1000000000000) (hi : i < 32 * (limbs m).length) : Ret Tryz.prog 148 [u32s (limbs m), .int .i64 i] (· = .int .u32 (m / 2 ^ i % 2 : Nat)) := by
  have e0 : (((limbs m).getD (i / 32) 0 : Nat) : Int) / 2 ^ ((i : Int) % 32).toNat = (((limbs m).getD (i / 32) 0 / 2 ^ (i % 32) : Nat) : Int) := by
    rw [show ((i : Int) % 32).toNat = i % 32 by omega]; simp
  have e1 : (limbs m).getD (i / 32) 0 / 2 ^ (i % 32) < 4294967296 := Nat.lt_of_le_of_lt (Nat.div_le_self _ _) ((wf_limbs m).getD _)
  refine ret_of_awp tab Tryz.func148 rfl rfl (Nat.le_of_ble_eq_true rfl) (fun w0 F0 => ?_)
  repeat' (first | refine wG ?_ | refine wS ?_ ?_ <;> intro _ | refine finG ?_)
  rw [e0]
  have e2 := bit_of_limb m i
  generalize (limbs m).getD (i / 32) 0 / 2 ^ (i % 32) = q at *
  repeat' (first | refine wG ?_ | refine wS ?_ ?_ <;> intro _ | refine finG ?_)
  rw [Int.toNat_natCast, show (1 : Int).toNat = 2 ^ 1 - 1 from rfl, Nat.and_two_pow_sub_one_eq_mod, ← e2]
theorem ref01_double (m o : Nat) (hm : (limbs m).length < 10000000000) (ho : o ≤ 1) : Ret Tryz.prog 147 [u32s (limbs m), .int .u32 o] (· = u32s (limbs (2 * m + o))) := by
  have h1 : (limbs (m * 2 * B ^ 0)).length ≤ (limbs m).length + 1 := by
    have := ln_mul m 2
    have := ln_small (n := 2) (by decide)
    simp only [ln] at *
    simp only [Nat.pow_zero, Nat.mul_one]
    omega
  have a1 := ref01_AddN (m * 2 * B ^ 0) 1 (by omega) (by have := ln_one; simp only [ln] at this; omega)
  rw [show limbs 1 = [1] from limbs_small (by decide) (by decide)] at a1
  refine ret_of_awp tab Tryz.func147 rfl rfl (Nat.le_of_ble_eq_true rfl) (fun w0 F0 => ?_)
  repeat' (first | refine wG ?_ | refine cl 150 tt rfl rfl rfl (hr := ref01_times _ 2 0 (by omega) (by omega) (by omega)) (k := ?_) | refine wC a1 ?_ | refine wS ?_ ?_ <;> intro _ | refine finG ?_)
  · rw [Nat.pow_zero, Nat.mul_one, Nat.mul_comm m, show o = 1 by omega]
  · rw [Nat.pow_zero, Nat.mul_one, Nat.mul_comm m, show o = 0 by omega, Nat.add_zero]
end Go.Proofs.YtoppaphffnojdaaGreat

set_option maxHeartbeats 8000000
namespace Go.Proofs.YtoppaphffnojdaaGreat
open Go.Vw
attribute [local irreducible] awp awpL awpR

theorem len_bound {a b : Nat} (h : a ≤ b) {k : Nat} (hb : (limbs b).length < k) : (limbs a).length < k := Nat.lt_of_le_of_lt (limbs_len_mono h) hb
theorem len_double {a b k : Nat} (h : a ≤ 2 * b + 1) (hb : (limbs b).length < k) : (limbs a).length < k + 1 := by
  have h1 := ln_add b (b + 1)
  have h2 := ln_add1 (m := b) (n := b) (Nat.le_refl _) (Nat.le_refl _)
  have h3 := ln_add1 (m := b) (n := b + 1) (k := (limbs b).length + 1)
  have h4 : a < B ^ (ln b + 1) := by
    have := lt_ln b
    rw [Nat.pow_succ]
    have : B ^ ln b * 2 ≤ B ^ ln b * B := Nat.mul_le_mul_left _ (by decide)
    omega
  have := ln_le h4
  simp only [ln] at this
  omega

theorem lv {a b : Nat} (h : a = b) : V.d (u32s (limbs a)) = V.d (u32s (limbs b)) := by rw [h]
theorem ref01_bitI (m j : Nat) (i : Int) (h : i = j) (hm : (limbs m).length < 1000000000000) (hi : j < 32 * (limbs m).length) : Ret Tryz.prog 148 [u32s (limbs m), .int .i64 i] (· = .int .u32 (m / 2 ^ j % 2 : Nat)) := by
  subst h; exact ref01_bit m j hm hi
theorem div_step {x y n o : Nat} (h0 : n ≠ 0) (h : y = 2 * x + o) (ho : o ≤ 1) : (n ≤ 2 * (x % n) + o → 2 * (x % n) + o - n = y % n ∧ 2 * (x / n) + 1 = y / n) ∧ (¬ n ≤ 2 * (x % n) + o → 2 * (x % n) + o = y % n ∧ 2 * (x / n) + 0 = y / n) := by
  have hp := Nat.pos_of_ne_zero h0
  have hx := Nat.div_add_mod x n
  have hr := Nat.mod_lt x hp
  have e : y = n * (2 * (x / n)) + (2 * (x % n) + o) := by
    have : n * (2 * (x / n)) = 2 * (n * (x / n)) := by rw [Nat.mul_left_comm]
    omega
  constructor <;> intro hc
  · have e2 : y = (2 * (x % n) + o - n) + n * (2 * (x / n) + 1) := by rw [Nat.mul_add]; omega
    have l1 : 2 * (x % n) + o - n < n := by omega
    have h1 : y % n = 2 * (x % n) + o - n := by rw [e2, Nat.add_mul_mod_self_left]; exact Nat.mod_eq_of_lt l1
    have h2 : y / n = 2 * (x / n) + 1 := by rw [e2, Nat.add_mul_div_left _ _ hp, Nat.div_eq_of_lt l1, Nat.zero_add]
    exact ⟨h1.symm, h2.symm⟩
  · have e2 : y = (2 * (x % n) + o) + n * (2 * (x / n)) := by omega
    have l1 : 2 * (x % n) + o < n := by omega
    have h1 : y % n = 2 * (x % n) + o := by rw [e2, Nat.add_mul_mod_self_left]; exact Nat.mod_eq_of_lt l1
    have h2 : y / n = 2 * (x / n) := by rw [e2, Nat.add_mul_div_left _ _ hp, Nat.div_eq_of_lt l1, Nat.zero_add]
    exact ⟨h1.symm, h2.symm⟩
theorem ref01_DivN (m n : Nat) (hm : (limbs m).length < 1000000000) (hn : (limbs n).length < 1000000000) (h0 : n ≠ 0) : Ret Tryz.prog 124 [u32s (limbs m), u32s (limbs n)] (· = .tup [u32s (limbs (m / n)), u32s (limbs (m % n)), .bool true]) := by
  have hl : 0 < (limbs n).length := List.length_pos_iff.2 (mt limbs_eq_nil.1 h0)
  have hz := div_bits_zero m
  simp only [ln] at hz
  refine ret_of_awp tab Tryz.func124 rfl rfl (Nat.le_of_ble_eq_true rfl) (fun w0 F0 => ?_)
  repeat' (first | refine wG ?_ | refine cl 122 tt rfl rfl rfl (hr := ref01_TakeN _ (by omega)) (k := ?_) | refine wS ?_ ?_ <;> intro _ | refine finG ?_)
  refine awp_nils 7 1 (eN .u32) 0 rfl ?_
  refine awp_nils 8 1 (eN .u32) 0 rfl ?_
  refine awp_loop1 (fun (k : Nat) => ([(0, .d (u32s (limbs m))), (1, .d (u32s (limbs n))), (7, .d (u32s (limbs (m / 2 ^ k / n)))), (8, .d (u32s (limbs (m / 2 ^ k % n)))), (9, .d (.int .i64 ((k : Int) - 1)))], [])) (fun k => k ≤ 32 * (limbs m).length) (fun k => k) (32 * (limbs m).length) (Nat.le_refl _) ⟨rfl, rfl, by rw [hz, Nat.zero_div, limbs_zero]; rfl, by rw [hz, Nat.zero_mod, limbs_zero]; rfl, iv (by simp), rfl⟩ trivial (fun k hi => ?_)
  have e1 : ((k : Int) - 1) = ((k - 1 : Nat) : Int) ∨ k = 0 := by omega
  have e2 := div_pow_step m k
  have hq : m / 2 ^ k ≤ m := Nat.div_le_self _ _
  have hq' : m / 2 ^ k / n ≤ m := Nat.le_trans (Nat.div_le_self _ _) hq
  have hr := Nat.mod_lt (m / 2 ^ k) (Nat.pos_of_ne_zero h0)
  have b1 := len_bound hq' hm
  have b2 := len_bound (Nat.le_of_lt hr) hn
  have b3 := len_double (a := 2 * (m / 2 ^ k % n) + m / 2 ^ (k - 1) % 2) (b := m / 2 ^ k % n) (by omega) b2
  have e3 : 0 < k → _ := fun hk => div_step (x := m / 2 ^ k) (y := m / 2 ^ (k - 1)) (o := m / 2 ^ (k - 1) % 2) h0 (e2 hk) (by omega)
  repeat' (first | refine wG ?_ | refine cl 148 tt rfl rfl rfl (hr := ref01_bitI _ (k - 1) _ (by omega) (by omega) (by omega)) (k := ?_) | refine cl 147 tt rfl rfl rfl (hr := ref01_double _ _ (by omega) (by omega)) (k := ?_) | refine cl 147 tt rfl rfl rfl (hr := ref01_double _ 1 (by omega) (by omega)) (k := ?_) | refine cl 147 tt rfl rfl rfl (hr := ref01_double _ 0 (by omega) (by omega)) (k := ?_) | refine cl 125 tt rfl rfl rfl (hr := ref01_SubN _ _ (by omega) (by omega)) (k := ?_) | refine wS ?_ ?_ <;> intro _ | refine finTG ?_)
  · rename_i hk hc
    obtain ⟨g1, g2⟩ := (e3 (by omega)).1 hc
    exact ⟨k - 1, by omega, by omega, ⟨rfl, rfl, lv g2, lv g1, iv (by omega), rfl⟩, trivial⟩
  · rename_i hk hc
    obtain ⟨g1, g2⟩ := (e3 (by omega)).2 hc
    exact ⟨k - 1, by omega, by omega, ⟨rfl, rfl, lv g2, lv g1, iv (by omega), rfl⟩, trivial⟩
  · have : k = 0 := by omega
    subst this
    rw [Nat.pow_zero, Nat.div_one]; exact leT

theorem ref01_Gcd (a b : List Nat) (hla : a.length < 100000000) (hlb : b.length < 100000000) (wa : WF a) (wb : WF b) : Ret Tryz.prog 131 [u32s a, u32s b] (· = u32s (limbs (Nat.gcd (nv a) (nv b)))) := by
  have la := length_limbs_nv wa
  have lb := length_limbs_nv wb
  have ta := ref01_TakeV a wa (by omega)
  have tb := ref01_TakeV b wb (by omega)
  generalize nv a = m at *
  generalize nv b = n at *
  refine ret_of_awp tab Tryz.func131 rfl rfl (Nat.le_of_ble_eq_true rfl) (fun w0 F0 => ?_)
  repeat' (first | refine wG ?_ | refine wC ta ?_ | refine wC tb ?_ | refine wS ?_ ?_ <;> intro _ | refine finG ?_)
  refine awp_loop2 (fun (x y : Nat) => ([(0, .d (u32s (limbs x))), (1, .d (u32s (limbs y)))], [])) (fun x y => (limbs x).length < 1000000000 ∧ (limbs y).length < 1000000000 ∧ Nat.gcd x y = Nat.gcd m n) (fun x y => y) m n ⟨by omega, by omega, rfl⟩ ⟨rfl, rfl, rfl⟩ trivial (fun x y hi => ?_)
  obtain ⟨h1, h2, h3⟩ := hi
  by_cases h0 : y = 0
  · subst h0
    have e : (limbs 0).length = 0 := by rw [limbs_zero]; rfl
    repeat' (first | refine wG ?_ | refine wS ?_ ?_ <;> intro _ | refine finG ?_)
    rw [← h3, Nat.gcd_zero_right]
  · have e : 0 < (limbs y).length := List.length_pos_iff.2 (mt limbs_eq_nil.1 h0)
    repeat' (first | refine wG ?_ | refine cl 124 tt rfl rfl rfl (hr := ref01_DivN _ _ (by omega) (by omega) h0) (k := ?_) | refine wS ?_ ?_ <;> intro _ | refine finG ?_)
    have hr := Nat.mod_lt x (Nat.pos_of_ne_zero h0)
    exact ⟨y, x % y, ⟨h2, len_bound (Nat.le_of_lt hr) h2, by rw [← h3, Nat.gcd_comm y, ← Nat.gcd_rec, Nat.gcd_comm]⟩, hr, ⟨rfl, rfl, rfl⟩, trivial⟩
theorem ref01_GcdN (m n : Nat) (hm : (limbs m).length < 100000000) (hn : (limbs n).length < 100000000) : Ret Tryz.prog 131 [u32s (limbs m), u32s (limbs n)] (· = u32s (limbs (Nat.gcd m n))) := by
  have := ref01_Gcd (limbs m) (limbs n) hm hn (wf_limbs m) (wf_limbs n)
  rw [nv_limbs, nv_limbs] at this
  exact this

end Go.Proofs.YtoppaphffnojdaaGreat

/-
  Integers and rational numbers as the program holds them. Conditions: none.
-/
namespace Go.Vw

def intC (neg : Bool) (mag : List Nat) : D := .agg [.bool neg, u32s mag]
def zD (z : Int) : D := intC (decide (z < 0)) (limbs z.natAbs)
def validI (neg : Bool) (mag : List Nat) : Bool := valid mag && !(neg && decide (mag.length = 0))
def iv' (neg : Bool) (mag : List Nat) : Int := if validI neg mag then (if neg then -(val mag : Int) else val mag) else 0

theorem validI_z (z : Int) : validI (decide (z < 0)) (limbs z.natAbs) = true := by
  unfold validI
  rw [valid_limbs, Bool.true_and, Bool.not_eq_true', Bool.and_eq_false_iff]
  by_cases h : z < 0
  · right
    have h0 : z.natAbs ≠ 0 := by omega
    exact decide_eq_false (mt (fun e => limbs_eq_nil.1 (List.length_eq_zero_iff.1 e)) h0)
  · left; exact decide_eq_false h
theorem iv'_z (z : Int) : iv' (decide (z < 0)) (limbs z.natAbs) = z := by
  unfold iv'
  rw [if_pos (validI_z z), val_limbs]
  by_cases h : z < 0
  · simp [h]; omega
  · simp [h]; omega
theorem intC_valid {neg : Bool} {mag : List Nat} (h : WF mag) (hv : validI neg mag = true) : intC neg mag = zD (iv' neg mag) := by
  unfold iv' zD
  rw [if_pos hv]
  unfold validI at hv
  rw [Bool.and_eq_true] at hv
  obtain ⟨h1, h2⟩ := hv
  have hl := limbs_val h h1
  cases neg with
  | true =>
    simp at h2
    have h0 : val mag ≠ 0 := fun e => h2 (by rw [← hl, e, limbs_zero])
    have e1 : (-(val mag : Int)).natAbs = val mag := by omega
    simp only [if_true]
    rw [e1, hl, decide_eq_true (by omega)]
  | false =>
    have e1 : ((val mag : Int)).natAbs = val mag := by omega
    simp only [Bool.false_eq_true, if_false]
    rw [e1, hl, decide_eq_false (by omega)]
theorem zD_zero : zD 0 = .agg [.bool false, u32s []] := by
  show intC _ (limbs 0) = _
  rw [limbs_zero]; rfl
theorem iv'_abs (neg : Bool) (mag : List Nat) : (iv' neg mag).natAbs = if validI neg mag then val mag else 0 := by
  unfold iv'; split
  · cases neg <;> simp
  · rfl
theorem iv'_len {neg : Bool} {mag : List Nat} (h : WF mag) : (limbs (iv' neg mag).natAbs).length ≤ mag.length := by
  rw [iv'_abs]; split
  · exact length_limbs_le (val_lt h)
  · rw [limbs_zero]; simp
theorem signed_z (neg : Bool) (n : Nat) : D.agg [.bool (neg && decide (0 < (limbs n).length)), u32s (limbs n)] = zD (if neg then -(n : Int) else n) := by
  unfold zD intC
  cases neg with
  | true =>
    simp only [if_true, Bool.true_and, Int.natAbs_neg, Int.natAbs_natCast]
    congr 3
    by_cases h : n = 0
    · subst h; simp [limbs_zero]
    · have := List.length_pos_iff.2 (mt limbs_eq_nil.1 h)
      rw [decide_eq_decide]; omega
  | false =>
    have : ¬ ((n : Int) < 0) := by omega
    simp [this]
theorem zD_cases (z : Int) : ∃ s n, zD z = .agg [.bool s, u32s (limbs n)] ∧ z = (if s then -(n : Int) else n) ∧ z.natAbs = n ∧ (s = true → n ≠ 0) := by
  refine ⟨decide (z < 0), z.natAbs, rfl, ?_, rfl, ?_⟩
  · by_cases h : z < 0
    · simp [h]; omega
    · simp [h]; omega
  · intro h; have := of_decide_eq_true h; omega
structure IntOk (neg : Bool) (mag : List Nat) (k : Nat) : Prop where
  wf : WF mag
  len : mag.length < k
theorem IntOk.z {z : Int} {k : Nat} (h : (limbs z.natAbs).length < k) : IntOk (decide (z < 0)) (limbs z.natAbs) k := ⟨wf_limbs _, h⟩
theorem IntOk.val {neg : Bool} {mag : List Nat} {k : Nat} (h : IntOk neg mag k) : (limbs (iv' neg mag).natAbs).length < k := Nat.lt_of_le_of_lt (iv'_len h.wf) h.len
end Go.Vw
