/-
  A statement of the seat: what its contract is, and the claim. Conditions: as each says.
-/
import Derived.Test.YtoppaphffnojdaaGreatW08
import Derived.Test.YtoppaphffnojdaaGreatPlotsC
import Derived.Test.YtoppaphffnojdaaGreatA10
set_option linter.unusedVariables false
set_option linter.unusedSimpArgs false
set_option maxHeartbeats 16000000
namespace Go.Proofs.YtoppaphffnojdaaGreat
open Go.Vw
attribute [local irreducible] awp awpL awpR

theorem leRsQs (l : List Rat) : LeD (qsD l) (rsD (l.map rq)) := LeD.sl (by simp) fun i a b ha hb => by
  rw [List.getElem?_map, ha] at hb
  have e : rq a = b := Option.some.inj hb
  subst e
  exact ⟨rfl, LeL.refl _⟩
theorem map_rv_rq (l : List Rat) : (l.map rq).map rv = l := by
  rw [List.map_map]
  exact (List.map_congr_left (fun q _ => rv_rq q)).trans (List.map_id l)
theorem plot_StripQ (vs : List Rat) (lo hi : Rat) (w : Nat) (h1 : 1 ≤ vs.length) (h2 : vs.length ≤ 64) (hvs : ∀ q ∈ vs, okQ 100 q) (hl : okQ 100 lo) (hh : okQ 100 hi) (hlt : lo < hi) (w1 : 1 ≤ w) (w2 : w ≤ 100) : Ret Tryz.prog 19 [qsD vs, qD lo, qD hi, .int .i64 w] (· = .tup [.str (lineB (countsZ lo hi w vs) ++ [10]), .int .i64 0]) := by
  have h := plot_Strip (vs.map rq) (rq lo) (rq hi) w (by rw [List.length_map]; omega) (fun _ r hr => by
    obtain ⟨q, hq, rfl⟩ := List.mem_map.1 hr
    exact ok_rq (hvs q hq)) (ok_rq hl) (ok_rq hh) (by omega) (by omega)
  rw [List.length_map, rv_rq, rv_rq, map_rv_rq] at h
  have hc : chk vs.length lo hi w 1 = 0 := by
    unfold chk
    rw [if_neg (by omega), if_neg]
    intro hx
    rcases hx with hx | hx
    · exact hx hlt
    · omega
  rw [if_pos hc] at h
  exact h.args (LeT.cons (leRsQs vs) (LeT.refl _))
end Go.Proofs.YtoppaphffnojdaaGreat
