/-
  A statement of the seat: what its contract is, and the claim. Conditions: as each says.
-/
import Derived.Test.YtjjefhbceoeibaaS08
import Derived.Test.YtjjefhbceoeibaaA10
import Derived.Test.YtjjefhbceoeibaaRows
import Derived.WalkKit
import Derived.ProofKit
import Derived.OpenShut
set_option linter.unusedVariables false
set_option linter.unusedSimpArgs false
namespace Go.Proofs.Ytjjefhbceoeibaa
open Go.ChangeShapes Go.WideShapes Go.ChangeAt Go.RowKit Go.Vw

namespace meets
theorem own : ownKnob Try.prog.godebug = none := by kernel_rfl
abbrev wit : Array Value := #[.agg #[.bool false, .slice none 0 0, .slice none 0 0, .bool false, .slice none 0 0, .slice none 0 0], .agg #[.bool false, .slice none 0 0, .slice none 0 0, .bool false, .slice none 0 0, .slice none 0 0], .agg #[.bool false, .slice none 0 0, .slice none 0 0]]
abbrev tys : Tys := .cons tItv (.cons tItv (.cons tRat .nil))
theorem true_of (x : tys.Val) (h : tys.wf x) : Ret Try.prog 3 (tys.tops x) (· = .bool true) := (meets_true (loR x.1) (hiR x.1) (loR x.2.1) (hiR x.2.1) (toR x.2.2.1) (rawLo (wfItv_of h.1)) (rawHi (wfItv_of h.1)) (rawLo (wfItv_of h.2.1)) (rawHi (wfItv_of h.2.1)) (rawR (wfRat_of h.2.2.1))).args (LeT.cons (leItv (wfItv_of h.1)) (LeT.cons (leItv (wfItv_of h.2.1)) (LeT.cons (leRatD (wfRat_of h.2.2.1)) LeT.nil)))

set_option maxRecDepth 100000 in
theorem contract (H : Type) (enc : TypeId × Value → H) (W : World) (base : Nat) (args : Array Value) (ds gs : List (DataW H)) (before : List MemPlace)
    (hval : ∀ (j : Nat) t v, Try.f3.params[j]? = some t → args[j]? = some v → Value.okWide Try.prog W .any base t v)
    (hW : DataW.Whole enc Try.prog Try.f3.params.toList Rows.intervalMeetsAndJoinsSpec.vars false W args.toList ds gs before) :
    Calls Try.prog 3 args W fun e W' => ∃ v, e = .returned v ∧ Rows.intervalMeetsAndJoinsSpec.post enc Try.prog Try.f3 false true false false W args v W' :=
  law_contract tys (by kernel_rfl) (by kernel_rfl) (by kernel_rfl) rfl rfl Try.underlying4 true_of H enc (fun ds h => by
    match ds, h with
    | [_, _, _], _ => exact ⟨rfl, rfl, rfl⟩) W base args ds gs before hval hW

set_option maxRecDepth 100000 in
theorem lifted (os : Os) (started : os.Started) (H : Type) (enc : TypeId × Value → H) :
    ReturnsInHanded {} Try.checked os 3 .any (Rows.intervalMeetsAndJoinsSpec.pre6 enc Try.prog Try.f3 Rows.intervalMeetsAndJoinsRow.domain false) (Rows.intervalMeetsAndJoinsSpec.post enc Try.prog Try.f3 false true false false) := by
  refine returnsInHanded_of_change (C := Try.checked) own started (by kernel_rfl) Try.func3
    (ChangeSpec.witness6 (enc := enc) (C := Try.checked) false ⟨#[], wit, []⟩ 8 (by kernel_rfl) (by kernel_rfl) (by kernel_rfl) (by kernel_rfl)) ?_
  intro W base args ds gs before hval hW _ _
  exact contract H enc W base args ds gs before hval hW

theorem said : Rows.IntervalMeetsAndJoinsSaid :=
  OpenClaim.holds_of_wide 3 Try.f3 rfl rfl rfl rfl rfl rfl rfl ⟨rfl, rfl, rfl, rfl, rfl⟩ rfl rfl rfl rfl rfl (by kernel_rfl) Try.func3 (by kernel_rfl)
    (of_decide_eq_true (by kernel_rfl)) (by unfold Func.isWrapper; first | (rw [if_pos (by decide +kernel)]; kernel_rfl) | (rw [if_neg (by decide +kernel)]; exact ⟨rfl, rfl⟩))
    (fun os started H enc _ => lifted os started H enc)
end meets
end Go.Proofs.Ytjjefhbceoeibaa
