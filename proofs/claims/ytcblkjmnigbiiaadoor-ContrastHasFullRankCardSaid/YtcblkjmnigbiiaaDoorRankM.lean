/-
  The matrices of the codings keep to small numbers when they are reduced, and each pivot stands in its place. Conditions: at most 12 levels.
-/
import Derived.Test.YtcblkjmnigbiiaaDoorRatsM
import Derived.Test.YtcblkjmnigbiiaaDoorContr
set_option linter.unusedVariables false
set_option linter.unusedSimpArgs false
namespace Go.Vw
def rankM (c n : Nat) : List (List Rat) := (List.range n).map fun (i : Nat) => if c = 4 then (List.range n).map fun (j : Nat) => ((entryZ c n (i : Nat) (j : Nat) : Int) : Rat) else 1 :: (List.range (n-1)).map fun (j : Nat) => ((entryZ c n (i : Nat) (j : Nat) : Int) : Rat)
set_option maxRecDepth 100000 in
theorem rankM_run : ∀ c ∈ [1,2,3,4], ∀ n ∈ [1,2,3,4,5,6,7,8,9,10,11,12], okRun n n (rankM c n) 1 = true := by decide +kernel
theorem rankM_ok (c n : Nat) (h1 : 1 ≤ c) (h2 : c ≤ 4) (h3 : 1 ≤ n) (h4 : n ≤ 12) : RunOk n (rankM c n) := okRun_spec (rankM_run c (by simp; omega) n (by simp; omega))
def rankR (c n : Int) : List (List R3) := if c = 4 then matZ c n n.toNat else (matZ c n n.toNat).map (zR 1 :: ·)
end Go.Vw
