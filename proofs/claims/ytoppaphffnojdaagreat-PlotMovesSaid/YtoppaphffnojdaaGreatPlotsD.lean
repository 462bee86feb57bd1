/-
  Plots of characters: bars, what is drawn into a line, the insertion from behind. Conditions: as each says.
-/
import Derived.Test.YtoppaphffnojdaaGreatPlotsC
import Derived.Test.YtoppaphffnojdaaGreatA10
import Derived.Test.YtoppaphffnojdaaGreatVT
set_option linter.unusedVariables false
set_option linter.unusedSimpArgs false
namespace Go.Vw
/-! ## Insertion from behind -/
theorem posQ_eq {x : Rat} {s : List Rat} {p : Nat} (hp : p ≤ s.length) (h1 : ∀ j, j < p → s.getD j 0 ≤ x) (h2 : p < s.length → x < s.getD p 0) : posQ x s = p := by
  induction s generalizing p with
  | nil => simp at hp; subst hp; rfl
  | cons y s ih =>
    rw [posQ]
    cases p with
    | zero =>
      rw [if_pos (by simpa using h2 (by simp))]
    | succ p =>
      have := h1 0 (by omega)
      rw [List.getD_cons_zero] at this
      rw [if_neg (Rat.not_lt.2 this), ih (p := p) (by simpa using hp) (fun j hj => by simpa using h1 (j + 1) (by omega)) (fun h => by simpa using h2 (by simpa using h))]
theorem copy_ins (s : List Rat) {p : Nat} (hp : p ≤ s.length) (x : Rat) : (copyL (s ++ [0]) (p + 1) (s.length - p) ((s ++ [0]).drop p)).set p x = s.take p ++ [x] ++ s.drop p := by
  have e1 : ((s ++ [0]).drop p).take (s.length - p) = s.drop p := by
    rw [List.drop_append_of_le_length hp, List.take_append_of_le_length (by simp)]
    exact List.take_of_length_le (by simp)
  have e2 : ((s ++ [0]).drop p).length = s.length - p + 1 := by simp; omega
  unfold copyL
  have e4 : (s ++ [0]).drop (p + 1 + (s.length - p)) = [] := List.drop_of_length_le (by simp only [List.length_append, List.length_cons, List.length_nil]; omega)
  rw [e1, e2, show min (s.length - p) (s.length - p + 1) = s.length - p by omega, e4, List.append_nil]
  have e3 : (s ++ [0]).take (p + 1) = s.take p ++ [(s ++ [0]).getD p 0] := by
    rw [List.take_add_one, List.take_append_of_le_length hp]
    congr 1
    rw [List.getD_eq_getElem?_getD, List.getElem?_eq_getElem (by simp; omega)]
    rfl
  rw [e3, List.append_assoc, List.set_append_right _ _ (by simp; omega)]
  rw [show p - (s.take p).length = 0 by simp; omega]
  simp
theorem copy_ins' (s : List Rat) {p n m : Nat} (hp : p ≤ s.length) (hn : n = s.length - p) (hm : m = s.length + 1 - p) (x : Rat) : (copyL (s ++ [0]) (p + 1) n (cut p m (s ++ [0]))).set p x = s.take p ++ [x] ++ s.drop p := by
  have e : cut p m (s ++ [0]) = (s ++ [0]).drop p := by
    rw [cut_eq]
    exact List.take_of_length_le (by simp; omega)
  rw [e, hn]
  exact copy_ins s hp x
/-! ## Bars -/
def mostZ (l : List Int) : Int := l.foldl max 0
theorem foldl_max_le {k : Int} : ∀ (l : List Int) (a : Int), a ≤ k → (∀ x ∈ l, x ≤ k) → a ≤ l.foldl max a ∧ l.foldl max a ≤ k
  | [], a, ha, _ => ⟨Int.le_refl _, ha⟩
  | x :: l, a, ha, h => by
    have hx := h x (by simp)
    have := foldl_max_le l (max a x) (by omega) (fun y hy => h y (by simp [hy]))
    rw [List.foldl_cons]
    omega
theorem foldl_max_mem : ∀ (l : List Int) (a : Int), ∀ x ∈ l, x ≤ l.foldl max a
  | y :: l, a, x, hx => by
    rw [List.foldl_cons]
    rcases List.mem_cons.1 hx with rfl | hx
    · have : ∀ (l : List Int) (a : Int), a ≤ l.foldl max a := fun l => by
        induction l with
        | nil => intro a; exact Int.le_refl _
        | cons z l ih => intro a; rw [List.foldl_cons]; have := ih (max a z); omega
      have := this l (max a x)
      omega
    · exact foldl_max_mem l _ x hx
theorem mostZ_bd {l : List Int} {k : Int} (hk : 0 ≤ k) (h : ∀ x ∈ l, x ≤ k) : 0 ≤ mostZ l ∧ mostZ l ≤ k := foldl_max_le l 0 hk h
theorem mostZ_take (l : List Int) (i : Nat) (h : i < l.length) : mostZ (l.take (i + 1)) = max (mostZ (l.take i)) (l.getD i 0) := by
  unfold mostZ
  rw [List.take_add_one, List.foldl_append]
  simp [List.getD_eq_getElem?_getD, h]
def barZ (m : Int) (w : Nat) (n : Int) : Nat := if 0 < m then (n * w / m).toNat else 0
theorem barZ_le {m : Int} {w : Nat} {n : Int} (h0 : 0 ≤ n) (h : n ≤ m) : barZ m w n ≤ w := by
  unfold barZ
  split
  · rename_i hm
    have : n * w ≤ m * w := Int.mul_le_mul_of_nonneg_right h (by omega)
    have h2 : n * w / m ≤ w := Int.ediv_le_of_le_mul hm (by rw [Int.mul_comm (w : Int)]; exact this)
    omega
  · omega
def barB (b w : Nat) : List UInt8 := List.replicate b 42 ++ List.replicate (w - b) 32
theorem barB_len {b w : Nat} (h : b ≤ w) : (barB b w).length = w := by unfold barB; simp; omega
theorem barB_set {b w : Nat} (h : b < w) : (barB b w).set b 42 = barB (b + 1) w := by
  unfold barB
  rw [List.set_append_right _ _ (by simp), List.length_replicate, Nat.sub_self]
  rw [show w - b = (w - (b + 1)) + 1 by omega, List.replicate_succ, List.set_cons_zero]
  rw [List.replicate_succ', List.append_assoc]
  rfl
theorem barB_take {b w j : Nat} (h : b ≤ w) (hj : j < w) : (barB b w).take (j + 1) = (barB b w).take j ++ [if j < b then 42 else 32] := by
  have e : (barB b w)[j]? = some (if j < b then 42 else 32) := by
    unfold barB
    by_cases hb : j < b
    · rw [List.getElem?_append_left (by simpa using hb), if_pos hb]; simp [hb]
    · rw [List.getElem?_append_right (by rw [List.length_replicate]; omega), if_neg hb, List.length_replicate, List.getElem?_replicate, if_pos (by omega)]
  rw [List.take_add_one, e]; rfl
def histB (m : Int) (w : Nat) (l : List Int) : List UInt8 := (l.map fun n => barB (barZ m w n) w ++ [10]).flatten
theorem histB_take (m : Int) (w : Nat) (l : List Int) (i : Nat) (h : i < l.length) : histB m w (l.take (i + 1)) = histB m w (l.take i) ++ (barB (barZ m w (l.getD i 0)) w ++ [10]) := by
  unfold histB
  rw [List.take_add_one, List.map_append, List.flatten_append]
  simp [List.getD_eq_getElem?_getD, h]
theorem histB_len {m : Int} {w : Nat} : ∀ {l : List Int}, (∀ x ∈ l, 0 ≤ x ∧ x ≤ m) → (histB m w l).length = l.length * (w + 1)
  | [], _ => by simp [histB]
  | x :: l, h => by
    have ih := histB_len (m := m) (w := w) (l := l) fun y hy => h y (by simp [hy])
    have hx := h x (by simp)
    unfold histB at ih ⊢
    rw [List.map_cons, List.flatten_cons, List.length_append, ih, List.length_append, barB_len (barZ_le hx.1 hx.2)]
    simp only [List.length_cons, List.length_nil]
    rw [Nat.add_mul]; omega
/-! ## What is drawn into a line -/
def drawL (b : List UInt8) (i j : Int) (c : UInt8) : List UInt8 := b.mapIdx fun k x => if i ≤ (k : Int) ∧ (k : Int) ≤ j then c else x
theorem drawL_len (b : List UInt8) (i j : Int) (c : UInt8) : (drawL b i j c).length = b.length := by simp [drawL]
theorem drawL_none {b : List UInt8} {i j : Int} {c : UInt8} (h : j < i) : drawL b i j c = b := by
  unfold drawL
  refine List.ext_getElem? fun k => ?_
  rw [List.getElem?_mapIdx]
  cases b[k]? with
  | none => rfl
  | some x => simp only [Option.map_some]; rw [if_neg (by omega)]
theorem drawL_step {b : List UInt8} {i j : Int} {c : UInt8} (h0 : 0 ≤ i) (h : i ≤ j + 1) : (drawL b i j c).set (j + 1).toNat c = drawL b i (j + 1) c := by
  unfold drawL
  refine List.ext_getElem? fun k => ?_
  rw [List.getElem?_set, List.getElem?_mapIdx, List.getElem?_mapIdx]
  by_cases hk : (j + 1).toNat = k
  · rw [if_pos hk]
    subst hk
    simp only [List.length_mapIdx]
    by_cases hl : (j + 1).toNat < b.length
    · rw [if_pos hl, List.getElem?_eq_getElem hl]
      simp only [Option.map_some]
      rw [if_pos (by omega)]
    · rw [if_neg hl, List.getElem?_eq_none (by omega)]; rfl
  · rw [if_neg hk]
    cases b[k]? with
    | none => rfl
    | some x =>
      simp only [Option.map_some]
      by_cases h1 : i ≤ (k : Int) ∧ (k : Int) ≤ j
      · rw [if_pos h1, if_pos (by omega)]
      · rw [if_neg h1, if_neg (by omega)]
end Go.Vw
