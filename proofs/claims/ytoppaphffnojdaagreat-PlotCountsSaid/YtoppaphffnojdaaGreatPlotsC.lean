/-
  Plots of characters: the sum of the counts. Conditions: as each says.
-/
import Derived.Test.YtoppaphffnojdaaGreatA10
set_option linter.unusedVariables false
set_option linter.unusedSimpArgs false
namespace Go.Vw
theorem sum_set_add : ∀ (l : List Int) (i : Nat) (d : Int), i < l.length → (l.set i (l.getD i 0 + d)).sum = l.sum + d
  | [], i, d, h => by simp at h
  | x :: l, 0, d, h => by simp; omega
  | x :: l, i + 1, d, h => by
    have := sum_set_add l i d (by simpa using h)
    simp only [List.set_cons_succ, List.sum_cons, List.getD_cons_succ]
    omega
def inQ (lo hi : Rat) (q : Rat) : Bool := decide (lo ≤ q) && decide (q ≤ hi)
def countIn (lo hi : Rat) (vs : List Rat) : Nat := (vs.filter (inQ lo hi)).length
theorem okP_in {lo hi : Rat} {c : Int} (h : lo < hi) (hc : 1 ≤ c) (v : Rat) : okP v lo hi c = inQ lo hi v := by
  unfold okP inQ
  rw [decide_eq_true h, decide_eq_true hc, Bool.true_and, Bool.true_and]
theorem foldl_sum {lo hi : Rat} {c : Int} (h : lo < hi) (hc : 1 ≤ c) : ∀ (vs : List Rat) (l : List Int), l.length = c.toNat → (vs.foldl (addC lo hi c) l).sum = l.sum + countIn lo hi vs
  | [], l, hl => by simp [countIn]
  | v :: vs, l, hl => by
    rw [List.foldl_cons, foldl_sum h hc vs _ (by rw [addC_len]; exact hl)]
    unfold countIn addC
    cases hk : okP v lo hi c
    · rw [okP_in h hc] at hk
      rw [List.filter_cons_of_neg (by rw [hk]; decide), if_neg (by decide)]
    · have hi' := cell_in hk
      rw [okP_in h hc] at hk
      rw [List.filter_cons_of_pos hk, if_pos rfl, sum_set_add _ _ _ (by omega)]
      simp only [List.length_cons]
      omega
theorem counts_sum {lo hi : Rat} {c : Int} (h : lo < hi) (hc : 1 ≤ c) (vs : List Rat) : (countsZ lo hi c vs).sum = countIn lo hi vs := by
  unfold countsZ
  rw [foldl_sum h hc vs _ (by simp)]
  simp
theorem sum_take (l : List Int) (i : Nat) (h : i < l.length) : (l.take (i + 1)).sum = (l.take i).sum + l.getD i 0 := by
  rw [List.take_add_one, List.sum_append]
  simp [List.getD_eq_getElem?_getD, h]
theorem sum_take_bd {l : List Int} {k : Int} (h : ∀ x ∈ l, 0 ≤ x ∧ x ≤ k) (hk : 0 ≤ k) : ∀ i, i ≤ l.length → 0 ≤ (l.take i).sum ∧ (l.take i).sum ≤ k * i
  | 0, _ => by simp
  | i + 1, hi => by
    have h1 := sum_take_bd h hk i (by omega)
    rw [sum_take l i (by omega)]
    have e : l.getD i 0 = l[i] := by simp [List.getD_eq_getElem?_getD, show i < l.length by omega]
    have h2 := h _ (List.getElem_mem (show i < l.length by omega))
    rw [e]
    have h3 : k * ((i + 1 : Nat) : Int) = k * i + k := by rw [Int.natCast_add, Int.mul_add]; omega
    omega
theorem countIn_take {lo hi : Rat} {vs : List Rat} {i : Nat} (h : i < vs.length) : countIn lo hi (vs.take (i + 1)) = countIn lo hi (vs.take i) + (if inQ lo hi (vs.getD i 0) = true then 1 else 0) := by
  unfold countIn
  rw [List.take_add_one, List.filter_append, List.length_append]
  simp only [List.getElem?_eq_getElem h, Option.toList_some, List.getD_eq_getElem?_getD, Option.getD_some]
  cases hk : inQ lo hi vs[i] <;> simp [List.filter_cons, hk]
theorem countIn_le (lo hi : Rat) (vs : List Rat) : countIn lo hi vs ≤ vs.length := List.length_filter_le ..
end Go.Vw
