/-
  Plots of characters: boxes; what is moved. Conditions: as each says.
-/
import Derived.Test.YtoppaphffnojdaaGreatPlotsD
import Derived.Test.YtoppaphffnojdaaGreatA10
set_option linter.unusedVariables false
set_option linter.unusedSimpArgs false
namespace Go.Vw
theorem okP_spec {v lo hi : Rat} {c : Int} : okP v lo hi c = true ↔ lo < hi ∧ 1 ≤ c ∧ lo ≤ v ∧ v ≤ hi := by
  unfold okP
  simp only [Bool.and_eq_true, decide_eq_true_eq, and_assoc]
theorem cell_mono {x y lo hi : Rat} {c : Int} (h : lo < hi) (hc : 1 ≤ c) (hxy : x ≤ y) : cellZ x lo hi c ≤ cellZ y lo hi c := by
  unfold cellZ
  have hd : 0 < hi - lo := by grind
  have hcp : (0 : Rat) ≤ (c : Rat) := by
    have : ((0 : Int) : Rat) ≤ (c : Rat) := Rat.intCast_le_intCast.2 (by omega)
    exact this
  have h1 : (x - lo) / (hi - lo) ≤ (y - lo) / (hi - lo) := by
    refine Rat.le_of_mul_le_mul_right (c := hi - lo) ?_ hd
    rw [div_mul_cancel' (Rat.ne_of_gt hd), div_mul_cancel' (Rat.ne_of_gt hd)]
    grind
  have h2 := Rat.mul_le_mul_of_nonneg_right h1 hcp
  have h3 : ((x - lo) / (hi - lo) * c).floor ≤ ((y - lo) / (hi - lo) * c).floor := Rat.le_floor_iff.2 (Rat.le_trans (Rat.floor_le _) h2)
  omega
/-! ## The ends of what is in the range -/
def leastC (lo hi : Rat) (w : Nat) (a : Int) (vs : List Rat) : Int := vs.foldl (fun a v => if okP v lo hi w then min a (cellZ v lo hi w) else a) a
def mostC (lo hi : Rat) (w : Nat) (a : Int) (vs : List Rat) : Int := vs.foldl (fun a v => if okP v lo hi w then max a (cellZ v lo hi w) else a) a
theorem leastC_take (lo hi : Rat) (w : Nat) (a : Int) (vs : List Rat) {i : Nat} (h : i < vs.length) : leastC lo hi w a (vs.take (i + 1)) = if okP (vs.getD i 0) lo hi w then min (leastC lo hi w a (vs.take i)) (cellZ (vs.getD i 0) lo hi w) else leastC lo hi w a (vs.take i) := by
  unfold leastC
  rw [List.take_add_one, List.foldl_append]
  simp [List.getD_eq_getElem?_getD, h]
theorem mostC_take (lo hi : Rat) (w : Nat) (a : Int) (vs : List Rat) {i : Nat} (h : i < vs.length) : mostC lo hi w a (vs.take (i + 1)) = if okP (vs.getD i 0) lo hi w then max (mostC lo hi w a (vs.take i)) (cellZ (vs.getD i 0) lo hi w) else mostC lo hi w a (vs.take i) := by
  unfold mostC
  rw [List.take_add_one, List.foldl_append]
  simp [List.getD_eq_getElem?_getD, h]
theorem leastC_spec (lo hi : Rat) (w : Nat) : ∀ (vs : List Rat) (a : Int), leastC lo hi w a vs ≤ a ∧ (∀ v ∈ vs, okP v lo hi w = true → leastC lo hi w a vs ≤ cellZ v lo hi w) ∧ (leastC lo hi w a vs = a ∨ ∃ v ∈ vs, okP v lo hi w = true ∧ leastC lo hi w a vs = cellZ v lo hi w)
  | [], a => ⟨Int.le_refl _, by simp, .inl rfl⟩
  | x :: vs, a => by
    have e : leastC lo hi w a (x :: vs) = leastC lo hi w (if okP x lo hi w then min a (cellZ x lo hi w) else a) vs := rfl
    rw [e]
    obtain ⟨h1, h2, h3⟩ := leastC_spec lo hi w vs (if okP x lo hi w then min a (cellZ x lo hi w) else a)
    generalize leastC lo hi w (if okP x lo hi w then min a (cellZ x lo hi w) else a) vs = r at *
    cases hk : okP x lo hi w
    · rw [hk, if_neg (by decide)] at h1 h3
      refine ⟨h1, fun v hv hok => ?_, h3.imp id fun ⟨v, hv, r⟩ => ⟨v, by simp [hv], r⟩⟩
      rcases List.mem_cons.1 hv with rfl | hv
      · rw [hk] at hok; cases hok
      · exact h2 v hv hok
    · rw [hk, if_pos rfl] at h1 h3
      refine ⟨by omega, fun v hv hok => ?_, ?_⟩
      · rcases List.mem_cons.1 hv with rfl | hv
        · omega
        · exact h2 v hv hok
      · rcases h3 with h3 | ⟨v, hv, r⟩
        · by_cases hc : a ≤ cellZ x lo hi w
          · exact .inl (by omega)
          · exact .inr ⟨x, by simp, hk, by omega⟩
        · exact .inr ⟨v, by simp [hv], r⟩
theorem mostC_spec (lo hi : Rat) (w : Nat) : ∀ (vs : List Rat) (a : Int), a ≤ mostC lo hi w a vs ∧ (∀ v ∈ vs, okP v lo hi w = true → cellZ v lo hi w ≤ mostC lo hi w a vs) ∧ (mostC lo hi w a vs = a ∨ ∃ v ∈ vs, okP v lo hi w = true ∧ mostC lo hi w a vs = cellZ v lo hi w)
  | [], a => ⟨Int.le_refl _, by simp, .inl rfl⟩
  | x :: vs, a => by
    have e : mostC lo hi w a (x :: vs) = mostC lo hi w (if okP x lo hi w then max a (cellZ x lo hi w) else a) vs := rfl
    rw [e]
    obtain ⟨h1, h2, h3⟩ := mostC_spec lo hi w vs (if okP x lo hi w then max a (cellZ x lo hi w) else a)
    generalize mostC lo hi w (if okP x lo hi w then max a (cellZ x lo hi w) else a) vs = r at *
    cases hk : okP x lo hi w
    · rw [hk, if_neg (by decide)] at h1 h3
      refine ⟨h1, fun v hv hok => ?_, h3.imp id fun ⟨v, hv, r⟩ => ⟨v, by simp [hv], r⟩⟩
      rcases List.mem_cons.1 hv with rfl | hv
      · rw [hk] at hok; cases hok
      · exact h2 v hv hok
    · rw [hk, if_pos rfl] at h1 h3
      refine ⟨by omega, fun v hv hok => ?_, ?_⟩
      · rcases List.mem_cons.1 hv with rfl | hv
        · omega
        · exact h2 v hv hok
      · rcases h3 with h3 | ⟨v, hv, r⟩
        · by_cases hc : cellZ x lo hi w ≤ a
          · exact .inl (by omega)
          · exact .inr ⟨x, by simp, hk, by omega⟩
        · exact .inr ⟨v, by simp [hv], r⟩
theorem ends_bd (lo hi : Rat) (w : Nat) (vs : List Rat) : 0 ≤ leastC lo hi w w vs ∧ leastC lo hi w w vs ≤ w ∧ -1 ≤ mostC lo hi w (-1) vs ∧ mostC lo hi w (-1) vs < w := by
  obtain ⟨a1, a2, a3⟩ := leastC_spec lo hi w vs w
  obtain ⟨b1, b2, b3⟩ := mostC_spec lo hi w vs (-1)
  refine ⟨?_, a1, b1, ?_⟩
  · rcases a3 with e | ⟨v, _, hk, e⟩
    · omega
    · have := cell_in hk; omega
  · rcases b3 with e | ⟨v, _, hk, e⟩
    · omega
    · have := cell_in hk; omega
def drawP (lo hi : Rat) (b : List UInt8) (x y : Rat) (c : UInt8) : List UInt8 := if okP x lo hi b.length && okP y lo hi b.length then drawL b (cellZ x lo hi b.length) (cellZ y lo hi b.length) c else b
theorem drawP_len (lo hi : Rat) (b : List UInt8) (x y : Rat) (c : UInt8) : (drawP lo hi b x y c).length = b.length := by unfold drawP; split; exact drawL_len ..; rfl
def rngQ (lo hi : Rat) (w : Nat) (vs : List Rat) : List Rat := (srt vs).filter fun v => okP v lo hi w
theorem rngQ_take (lo hi : Rat) (w : Nat) (s : List Rat) {i : Nat} (h : i < s.length) : (s.take (i + 1)).filter (fun v => okP v lo hi w) = if okP (s.getD i 0) lo hi w then (s.take i).filter (fun v => okP v lo hi w) ++ [s.getD i 0] else (s.take i).filter (fun v => okP v lo hi w) := by
  rw [List.take_add_one, List.filter_append]
  rw [List.getElem?_eq_getElem h, List.getD_eq_getElem?_getD, List.getElem?_eq_getElem h]
  simp only [Option.toList_some, Option.getD_some]
  cases hk : okP s[i] lo hi w <;> simp [List.filter_cons, hk]
theorem rngQ_mem {lo hi : Rat} {w : Nat} {vs : List Rat} {v : Rat} : v ∈ rngQ lo hi w vs ↔ v ∈ vs ∧ okP v lo hi w = true := by
  unfold rngQ
  rw [List.mem_filter, (srt_perm vs).mem_iff]
theorem rngQ_asc (lo hi : Rat) (w : Nat) (vs : List Rat) : AscQ (rngQ lo hi w vs) := List.Pairwise.sublist List.filter_sublist (srt_asc vs)
theorem draw_ends {lo hi : Rat} {b : List UInt8} (vs : List Rat) (c : UInt8) : drawL b (leastC lo hi b.length b.length vs) (mostC lo hi b.length (-1) vs) c = if 0 < (rngQ lo hi b.length vs).length then drawP lo hi b ((rngQ lo hi b.length vs).getD 0 0) ((rngQ lo hi b.length vs).getD ((rngQ lo hi b.length vs).length - 1) 0) c else b := by
  obtain ⟨a1, a2, a3⟩ := leastC_spec lo hi b.length vs b.length
  obtain ⟨b1, b2, b3⟩ := mostC_spec lo hi b.length vs (-1)
  have hasc := rngQ_asc lo hi b.length vs
  have hmem : ∀ v, v ∈ rngQ lo hi b.length vs ↔ v ∈ vs ∧ okP v lo hi b.length = true := fun v => rngQ_mem
  generalize rngQ lo hi b.length vs = l at *
  generalize leastC lo hi b.length b.length vs = le at *
  generalize mostC lo hi b.length (-1) vs = mo at *
  by_cases h0 : 0 < l.length
  · rw [if_pos h0]
    have g0 : l.getD 0 0 ∈ l := by rw [List.getD_eq_getElem?_getD, List.getElem?_eq_getElem h0]; exact List.getElem_mem h0
    have g1 : l.getD (l.length - 1) 0 ∈ l := by rw [List.getD_eq_getElem?_getD, List.getElem?_eq_getElem (show l.length - 1 < l.length by omega)]; exact List.getElem_mem _
    obtain ⟨m0, o0⟩ := (hmem _).1 g0
    obtain ⟨m1, o1⟩ := (hmem _).1 g1
    obtain ⟨hlt, hc, _, _⟩ := okP_spec.1 o0
    have all : ∀ v ∈ l, l.getD 0 0 ≤ v ∧ v ≤ l.getD (l.length - 1) 0 := fun v hv => by
      obtain ⟨i, hi, rfl⟩ := List.mem_iff_getElem.1 hv
      have e : l[i] = l.getD i 0 := by rw [List.getD_eq_getElem?_getD, List.getElem?_eq_getElem hi]; rfl
      rw [e]
      exact ⟨asc_getD hasc (Nat.zero_le _) hi, asc_getD hasc (by omega) (by omega)⟩
    have e1 : le = cellZ (l.getD 0 0) lo hi b.length := by
      have h1 := a2 _ m0 o0
      have hin := cell_in o0
      rcases a3 with e | ⟨v, hv, hk, e⟩
      · omega
      · have := cell_mono (lo := lo) (hi := hi) (c := b.length) hlt hc (all v ((hmem v).2 ⟨hv, hk⟩)).1
        omega
    have e2 : mo = cellZ (l.getD (l.length - 1) 0) lo hi b.length := by
      have h1 := b2 _ m1 o1
      have hin := cell_in o1
      rcases b3 with e | ⟨v, hv, hk, e⟩
      · omega
      · have := cell_mono (lo := lo) (hi := hi) (c := b.length) hlt hc (all v ((hmem v).2 ⟨hv, hk⟩)).2
        omega
    unfold drawP
    rw [o0, o1, if_pos (by rfl), e1, e2]
  · rw [if_neg h0]
    have none : ∀ v ∈ vs, ¬ okP v lo hi b.length = true := fun v hv hk => by
      have := List.length_pos_of_mem ((hmem v).2 ⟨hv, hk⟩)
      omega
    refine drawL_none ?_
    rcases a3 with e | ⟨v, hv, hk, _⟩
    · rcases b3 with e' | ⟨v, hv, hk, _⟩
      · omega
      · exact absurd hk (none v hv)
    · exact absurd hk (none v hv)
def boxB (lo hi : Rat) (w : Nat) (vs : List Rat) : List UInt8 :=
  drawP lo hi (drawP lo hi (drawL (List.replicate w 32) (leastC lo hi w w vs) (mostC lo hi w (-1) vs) 45) (qLo vs (1 / 4)) (qLo vs (3 / 4)) 61) (medLo vs) (medLo vs) 124
end Go.Vw
