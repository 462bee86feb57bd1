/-
  Plots of characters: what is moved has the same plot. Conditions: as each says.
-/
import Derived.Test.YtoppaphffnojdaaGreatPlotsE
import Derived.Test.YtoppaphffnojdaaGreatA10
set_option linter.unusedVariables false
set_option linter.unusedSimpArgs false
namespace Go.Vw
def mvQ (b c x : Rat) : Rat := b + c * x
theorem mv_lt {b c x y : Rat} (hc : 0 < c) : mvQ b c x < mvQ b c y ↔ x < y := by
  unfold mvQ
  constructor
  · intro h
    refine Classical.byContradiction fun hn => ?_
    have h1 := Rat.mul_le_mul_of_nonneg_left (Rat.not_lt.1 hn) (Rat.le_of_lt hc)
    grind
  · intro h
    have h1 := Rat.mul_lt_mul_of_pos_left h hc
    grind
theorem mv_le {b c x y : Rat} (hc : 0 < c) : mvQ b c x ≤ mvQ b c y ↔ x ≤ y := by
  rw [← Rat.not_lt, ← Rat.not_lt, mv_lt hc]
theorem mv_okP {b c : Rat} (hc : 0 < c) (v lo hi : Rat) (w : Int) : okP (mvQ b c v) (mvQ b c lo) (mvQ b c hi) w = okP v lo hi w := by
  unfold okP
  simp only [mv_lt hc, mv_le hc]
theorem mv_cellZ {b c : Rat} (hc : 0 < c) {v lo hi : Rat} (w : Int) (h : lo < hi) : cellZ (mvQ b c v) (mvQ b c lo) (mvQ b c hi) w = cellZ v lo hi w := by
  unfold cellZ
  have e : (mvQ b c v - mvQ b c lo) / (mvQ b c hi - mvQ b c lo) = (v - lo) / (hi - lo) := by
    have hd : hi - lo ≠ 0 := by grind
    have hd2 : mvQ b c hi - mvQ b c lo ≠ 0 := by
      have := (mv_lt (b := b) hc).2 h
      grind
    have e1 : mvQ b c v - mvQ b c lo = c * (v - lo) := by unfold mvQ; grind
    have e2 : mvQ b c hi - mvQ b c lo = c * (hi - lo) := by unfold mvQ; grind
    have k1 : (v - lo) / (hi - lo) * (mvQ b c hi - mvQ b c lo) = mvQ b c v - mvQ b c lo := by
      rw [e1, e2]
      have := div_mul_cancel' (a := v - lo) hd
      grind
    have k2 := div_mul_cancel' (a := mvQ b c v - mvQ b c lo) hd2
    have k3 : ((mvQ b c v - mvQ b c lo) / (mvQ b c hi - mvQ b c lo) - (v - lo) / (hi - lo)) * (mvQ b c hi - mvQ b c lo) = 0 := by
      grind
    rcases Rat.mul_eq_zero.1 k3 with h | h
    · grind
    · exact absurd h hd2
  rw [e]
theorem mv_counts {b c : Rat} (hc : 0 < c) {lo hi : Rat} (w : Int) (h : lo < hi) (vs : List Rat) : countsZ (mvQ b c lo) (mvQ b c hi) w (vs.map (mvQ b c)) = countsZ lo hi w vs := by
  unfold countsZ
  rw [List.foldl_map]
  congr 1
  funext l v
  unfold addC
  rw [mv_okP hc, mv_cellZ hc w h]
theorem mv_least {b c : Rat} (hc : 0 < c) {lo hi : Rat} (w : Nat) (a : Int) (h : lo < hi) (vs : List Rat) : leastC (mvQ b c lo) (mvQ b c hi) w a (vs.map (mvQ b c)) = leastC lo hi w a vs := by
  unfold leastC
  rw [List.foldl_map]
  congr 1
  funext l v
  rw [mv_okP hc, mv_cellZ hc w h]
theorem mv_most {b c : Rat} (hc : 0 < c) {lo hi : Rat} (w : Nat) (a : Int) (h : lo < hi) (vs : List Rat) : mostC (mvQ b c lo) (mvQ b c hi) w a (vs.map (mvQ b c)) = mostC lo hi w a vs := by
  unfold mostC
  rw [List.foldl_map]
  congr 1
  funext l v
  rw [mv_okP hc, mv_cellZ hc w h]
theorem mv_drawP {b c : Rat} (hc : 0 < c) {lo hi : Rat} (h : lo < hi) (l : List UInt8) (x y : Rat) (u : UInt8) : drawP (mvQ b c lo) (mvQ b c hi) l (mvQ b c x) (mvQ b c y) u = drawP lo hi l x y u := by
  unfold drawP
  rw [mv_okP hc, mv_okP hc, mv_cellZ hc _ h, mv_cellZ hc _ h]
theorem qLo_map {φ : Rat → Rat} (hm : ∀ x y, x ≤ y → φ x ≤ φ y) {l : List Rat} (h0 : 0 < l.length) (p : Rat) : qLo (l.map φ) p = φ (qLo l p) := by
  unfold qLo
  rw [srt_map hm, List.length_map, getD_map_in]
  rw [srt_len]
  omega
theorem mv_box {b c : Rat} (hc : 0 < c) {lo hi : Rat} (w : Nat) (h : lo < hi) {vs : List Rat} (h0 : 0 < vs.length) : boxB (mvQ b c lo) (mvQ b c hi) w (vs.map (mvQ b c)) = boxB lo hi w vs := by
  have hm : ∀ x y, x ≤ y → mvQ b c x ≤ mvQ b c y := fun x y => (mv_le hc).2
  unfold boxB
  rw [mv_least hc w w h, mv_most hc w _ h, qLo_map hm h0, qLo_map hm h0, (med_map hm h0).1, mv_drawP hc h, mv_drawP hc h]
end Go.Vw
