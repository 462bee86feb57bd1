/-
  A statement of the seat: what its contract is, and the claim. Conditions: as each says.
-/
import Derived.Test.YtoppaphffnojdaaGreatA08
import Derived.Test.YtoppaphffnojdaaGreatA06
import Derived.Test.YtoppaphffnojdaaGreatRows
import Derived.WalkKit
import Derived.ProofKit
import Derived.OpenShut
set_option linter.unnecessarySimpa false
set_option linter.unusedVariables false
set_option linter.unusedSimpArgs false
set_option maxHeartbeats 8000000
namespace Go.Proofs.YtoppaphffnojdaaGreat
open Go.ChangeShapes Go.WideShapes Go.ChangeAt Go.RowKit Go.Vw

namespace scat
theorem own : ownKnob Tryz.prog.godebug = none := by kernel_rfl
abbrev wit : Array Value := #[.slice none 0 0, .slice none 0 0, .slice none 0 0, .int .i64 0, .int .i64 0]
abbrev tys : Tys := .cons (.slice (.int .i64)) (.cons (.slice tRat) (.cons (.slice tRat) (.cons (.int .i64) (.cons (.int .i64) .nil))))
theorem true_of (x : tys.Val) (h : tys.wf x) : Ret Tryz.prog 5 (tys.tops x) (· = .bool true) := (scat_true x.1 (toRs x.2.1) (toRs x.2.2.1) x.2.2.2.1 x.2.2.2.2.1 h.1.1 (fun y hy => i64_wf (h.1.2 y hy)) (lenRs h.2.1) (rawRs h.2.1) (lenRs h.2.2.1) (rawRs h.2.2.1) (i64_wf h.2.2.2.1).1 (i64_wf h.2.2.2.1).2 (i64_wf h.2.2.2.2.1).1 (i64_wf h.2.2.2.2.1).2).args (LeT.cons (LeD.refl _) (LeT.cons (leRatsD h.2.1) (LeT.cons (leRatsD h.2.2.1) (LeT.cons (LeD.refl _) (LeT.cons (LeD.refl _) LeT.nil)))))

set_option maxRecDepth 100000 in
theorem contract (H : Type) (enc : TypeId × Value → H) (W : World) (base : Nat) (args : Array Value) (ds gs : List (DataW H)) (before : List MemPlace)
    (hval : ∀ (j : Nat) t v, Tryz.f5.params[j]? = some t → args[j]? = some v → Value.okWide Tryz.prog W .any base t v)
    (hW : DataW.Whole enc Tryz.prog Tryz.f5.params.toList Rows.plotScattersSpec.vars false W args.toList ds gs before) :
    Calls Tryz.prog 5 args W fun e W' => ∃ v, e = .returned v ∧ Rows.plotScattersSpec.post enc Tryz.prog Tryz.f5 false true false false W args v W' :=
  law_contract tys (by kernel_rfl) (by kernel_rfl) (by kernel_rfl) rfl rfl Tryz.underlying4 true_of H enc (fun ds h => by
    match ds, h with
    | [_, _, _, _, _], _ => exact ⟨rfl, rfl, rfl⟩) W base args ds gs before hval hW

set_option maxRecDepth 100000 in
theorem lifted (os : Os) (started : os.Started) (H : Type) (enc : TypeId × Value → H) :
    ReturnsInHanded {} Tryz.checked os 5 .any (Rows.plotScattersSpec.pre6 enc Tryz.prog Tryz.f5 Rows.plotScattersRow.domain false) (Rows.plotScattersSpec.post enc Tryz.prog Tryz.f5 false true false false) := by
  refine returnsInHanded_of_change (C := Tryz.checked) own started (by kernel_rfl) Tryz.func5
    (ChangeSpec.witness6 (enc := enc) (C := Tryz.checked) false ⟨#[], wit, []⟩ 8 (by kernel_rfl) (by kernel_rfl) (by kernel_rfl) (by kernel_rfl)) ?_
  intro W base args ds gs before hval hW _ _
  exact contract H enc W base args ds gs before hval hW

theorem said : Rows.PlotScattersSaid :=
  OpenClaim.holds_of_wide 5 Tryz.f5 rfl rfl rfl rfl rfl rfl rfl ⟨rfl, rfl, rfl, rfl, rfl⟩ rfl rfl rfl rfl rfl (by kernel_rfl) Tryz.func5 (by kernel_rfl)
    (of_decide_eq_true (by kernel_rfl)) (by unfold Func.isWrapper; first | (rw [if_pos (by decide +kernel)]; kernel_rfl) | (rw [if_neg (by decide +kernel)]; exact ⟨rfl, rfl⟩))
    (fun os started H enc _ => lifted os started H enc)
end scat
end Go.Proofs.YtoppaphffnojdaaGreat
