/-
  Plots of characters: how many values are in each cell. Conditions: as each says.
-/
import Derived.Test.YtoppaphffnojdaaGreatA09
import Derived.Test.YtoppaphffnojdaaGreatA06
import Derived.Test.YtoppaphffnojdaaGreatA10
set_option linter.unusedVariables false
set_option linter.unusedSimpArgs false
namespace Go.Vw
def markZ (n : Int) : Int := if n = 0 then 32 else if 9 < n then 35 else 48 + n
def lineB (l : List Int) : List UInt8 := l.map fun n => UInt8.ofNat (markZ n).toNat
def addC (lo hi : Rat) (c : Int) (l : List Int) (v : Rat) : List Int := if okP v lo hi c then l.set (cellZ v lo hi c).toNat (l.getD (cellZ v lo hi c).toNat 0 + 1) else l
def countsZ (lo hi : Rat) (c : Int) (vs : List Rat) : List Int := vs.foldl (addC lo hi c) (List.replicate c.toNat 0)
theorem addC_len (lo hi : Rat) (c : Int) (l : List Int) (v : Rat) : (addC lo hi c l v).length = l.length := by unfold addC; split <;> simp
theorem foldl_len (lo hi : Rat) (c : Int) : ∀ (vs : List Rat) (l : List Int), (vs.foldl (addC lo hi c) l).length = l.length
  | [], l => rfl
  | v :: vs, l => by rw [List.foldl_cons, foldl_len lo hi c vs, addC_len]
theorem addC_bd {lo hi : Rat} {c : Int} {l : List Int} {k : Int} (h : ∀ x ∈ l, 0 ≤ x ∧ x ≤ k) (hk : 0 ≤ k) (v : Rat) : ∀ x ∈ addC lo hi c l v, 0 ≤ x ∧ x ≤ k + 1 := by
  intro x hx
  unfold addC at hx
  split at hx
  · rcases List.mem_or_eq_of_mem_set hx with hx | hx
    · have := h x hx; omega
    · have hg : 0 ≤ l.getD (cellZ v lo hi c).toNat 0 ∧ l.getD (cellZ v lo hi c).toNat 0 ≤ k := by
        rw [List.getD_eq_getElem?_getD]
        by_cases hi' : (cellZ v lo hi c).toNat < l.length
        · rw [List.getElem?_eq_getElem hi']; exact h _ (List.getElem_mem hi')
        · rw [List.getElem?_eq_none (by omega)]; exact ⟨Int.le_refl _, hk⟩
      omega
  · have := h x hx; omega
theorem take_bd (lo hi : Rat) (c : Int) : ∀ (vs : List Rat) (l : List Int) (k : Int), (∀ x ∈ l, 0 ≤ x ∧ x ≤ k) → 0 ≤ k → ∀ x ∈ vs.foldl (addC lo hi c) l, 0 ≤ x ∧ x ≤ k + vs.length
  | [], l, k, h, hk => by simpa using h
  | v :: vs, l, k, h, hk => by
    rw [List.foldl_cons]
    have := take_bd lo hi c vs (addC lo hi c l v) (k + 1) (addC_bd h hk v) (by omega)
    simp only [List.length_cons]
    intro x hx
    have := this x hx
    omega
theorem counts_bd (lo hi : Rat) (c : Int) (vs : List Rat) : ∀ x ∈ countsZ lo hi c vs, 0 ≤ x ∧ x ≤ vs.length := by
  have := take_bd lo hi c vs (List.replicate c.toNat 0) 0 (by intro x hx; rw [(List.mem_replicate.1 hx).2]; decide) (by decide)
  simpa [countsZ] using this
theorem counts_len (lo hi : Rat) (c : Int) (vs : List Rat) : (countsZ lo hi c vs).length = c.toNat := by
  unfold countsZ; rw [foldl_len, List.length_replicate]
theorem counts_take (lo hi : Rat) (c : Int) (vs : List Rat) {i : Nat} (h : i < vs.length) : countsZ lo hi c (vs.take (i + 1)) = addC lo hi c (countsZ lo hi c (vs.take i)) (vs.getD i 0) := by
  unfold countsZ
  rw [List.take_add_one, List.foldl_append]
  simp [List.getD_eq_getElem?_getD, h]
theorem markZ_bd {n : Int} (h : 0 ≤ n) : 0 ≤ markZ n ∧ markZ n < 256 := by unfold markZ; split <;> (try split) <;> omega
end Go.Vw
