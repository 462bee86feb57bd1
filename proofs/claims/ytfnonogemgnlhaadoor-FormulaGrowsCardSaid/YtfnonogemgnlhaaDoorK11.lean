/-
  A statement of the seat: what its contract is, and the claim. Conditions: as each says.
-/
import Derived.Test.YtfnonogemgnlhaaDoorA07
import Derived.Test.YtfnonogemgnlhaaDoorCards
import Derived.Test.YtfnonogemgnlhaaDoorTie
set_option linter.unusedVariables false
set_option linter.unusedSimpArgs false
namespace Go.Proofs.YtfnonogemgnlhaaDoor
open Go.ChangeShapes Go.WideShapes Go.ChangeAt Go.RowKit Go.Vw

theorem own : ownKnob Tryd.prog.godebug = none := by kernel_rfl

def litV : DataW Unit → Value
  | .lit (.int k n) => .int k n
  | _ => undef
def tabV : DataW Unit → Array Value
  | .agg ds => (ds.map litV).toArray
  | _ => #[]
def fillC (d : DataW Unit) : Obj → Obj
  | .cells _ t fz => .cells (tabV d) t fz
  | o => o
noncomputable def laidWorld (os : Os) : World :=
  { World.holding Tryd.prog os ⟨#[], #[], []⟩ with heap := (((World.holding Tryd.prog os ⟨#[], #[], []⟩).heap.modify 0 (fillC Rows.laid_internal_strconv_uint64pow10)).modify 2 (fillC Rows.laid_math_bits_deBruijn32tab)).modify 3 (fillC Rows.laid_math_bits_deBruijn64tab) }



namespace grows
abbrev wit : Array Value := #[.agg #[.string ByteArray.empty, .slice none 0 0], .agg #[.string ByteArray.empty, .slice none 0 0], .int .i64 0]
theorem laid_met (os : Os) : laidMet Tryd.prog Rows.formulaGrowsRow.laid ((laidWorld os).forCall (fun _ _ => 0) ⟨#[], wit, []⟩).memory :=
  laidMet_of_run' 8 (by kernel_rfl) (by kernel_rfl)
theorem reads (os : Os) {H : Type} (enc : TypeId × Value → H) : ∃ places, DataW.whole enc Tryd.prog ((laidWorld os).forCall (fun _ _ => 0) ⟨#[], wit, []⟩).memory Tryd.f9.params.toList Rows.formulaGrowsSpec.vars false wit.toList 8 = some ([.agg [.lit (.string []), .nil], .agg [.lit (.string []), .nil], .lit (.int .i64 0)], [], places) :=
  ⟨[], by kernel_rfl⟩
abbrev tys : Tys := .cons tFm (.cons tFm (.cons (.int .i64) .nil))
theorem true_of (x : tys.Val) (h : tys.wf x) : Ret Tryd.prog 9 (tys.tops x) (· = .bool true) := (law09_FormulaGrows x.1.1 (toNds x.1.2.1) x.2.1.1 (toNds x.2.1.2.1) x.2.2.1 (fm_wf h.1).1 (fm_wf h.1).2 (fm_wf h.2.1).1 (fm_wf h.2.1).2 (i64_wf h.2.2.1).1 (i64_wf h.2.2.1).2).args (LeT.cons (leFm _) (LeT.cons (leFm _) (LeT.cons (LeD.refl _) LeT.nil)))

set_option maxRecDepth 100000 in
theorem contract (H : Type) (enc : TypeId × Value → H) (W : World) (base : Nat) (args : Array Value) (ds gs : List (DataW H)) (before : List MemPlace)
    (hval : ∀ (j : Nat) t v, Tryd.f9.params[j]? = some t → args[j]? = some v → Value.okWide Tryd.prog W .any base t v)
    (hW : DataW.Whole enc Tryd.prog Tryd.f9.params.toList Rows.formulaGrowsSpec.vars false W args.toList ds gs before) :
    Calls Tryd.prog 9 args W fun e W' => ∃ v, e = .returned v ∧ Rows.formulaGrowsSpec.post enc Tryd.prog Tryd.f9 false true false false W args v W' :=
  law_contract tys (by kernel_rfl) (by kernel_rfl) (by kernel_rfl) rfl rfl Tryd.underlying4 true_of H enc (fun ds h => by
    match ds, h with
    | [_, _, _], _ => exact ⟨rfl, rfl, rfl⟩) W base args ds gs before hval hW

set_option maxRecDepth 100000 in
theorem lifted (os : Os) (started : os.Started) (H : Type) (enc : TypeId × Value → H) (F : Stop.Interp) :
    ReturnsInHanded {} Tryd.checked os 9 .any ((OpenSpec.ofChange Rows.formulaGrowsSpec).preRow enc Tryd.prog Tryd.f9 Rows.formulaGrowsRow.domain false Rows.formulaGrowsRow.laid) (((OpenSpec.ofChange Rows.formulaGrowsSpec).at F).post enc Tryd.prog Tryd.f9 false true false false) := by
  obtain ⟨places, hx⟩ := reads os enc
  refine returnsInHanded_of_row (C := Tryd.checked) (s := OpenSpec.ofChange Rows.formulaGrowsSpec) own started (by kernel_rfl) Tryd.func9
    (witness_row_at (enc := enc) (C := Tryd.checked) false (laidWorld os) wit rfl (by kernel_rfl) (by kernel_rfl) (by kernel_rfl)
      (OpenSpec.preRow_of_cond 8 hx (by kernel_rfl) (fun k hk => by cases hk) (by kernel_rfl) (laid_met os))) ?_
  intro W base args ds gs before hval hW _ _ _ hL _ _
  exact contract H enc W base args ds gs before hval hW

theorem said : Rows.FormulaGrowsSaid :=
  OpenClaim.holds_of_cond 9 Tryd.f9 rfl rfl rfl rfl rfl rfl rfl ⟨rfl, rfl, rfl, rfl, rfl⟩ rfl rfl rfl rfl rfl (by kernel_rfl) Tryd.func9 (by kernel_rfl)
    (of_decide_eq_true (by kernel_rfl)) (by unfold Func.isWrapper; first | (rw [if_pos (by decide +kernel)]; kernel_rfl) | (rw [if_neg (by decide +kernel)]; exact ⟨rfl, rfl⟩))
    (fun os started H enc _ F => by rw [OpenClaim.pre_eq_preRow]; exact lifted os started H enc F)

theorem plain (f : FuncId) (fn : Func) (hf : Tryd.pinned.checked.prog.funcNamed "robuststats/robuststatslaw09.FormulaGrows" = some f) (hfn : Tryd.pinned.checked.prog.funcs[f]? = some fn) :
    true = Tryd.pinned.checked.prog.looks [] ∧ ∀ (j : Nat) t, fn.params[j]? = some t → Tryd.pinned.checked.prog.wantsStandIn t = false := by
  obtain rfl : f = 9 := Option.some.inj ((show Tryd.prog.funcNamed "robuststats/robuststatslaw09.FormulaGrows" = some 9 by kernel_rfl).symm.trans hf) |>.symm
  obtain rfl : fn = Tryd.f9 := (Option.some.inj (Tryd.func9.symm.trans hfn)).symm
  refine ⟨by kernel_rfl, fun j t ht => ?_⟩
  have h : (Tryd.f9.params.toList.all fun t => !Tryd.pinned.checked.prog.wantsStandIn t) = true := by kernel_rfl
  have hm : t ∈ Tryd.f9.params.toList := by simpa using Array.mem_of_getElem? ht
  simpa using List.all_eq_true.1 h t hm

theorem card : Rows.FormulaGrowsCardSaid :=
  Claim7.holds_tied_plain_at .later [] _ _ _ _ said (fun _ h => by cases h) (by kernel_rfl) (fun _ h => by cases h) formulaGrows_row_tie rfl ⟨rfl, rfl⟩ (by kernel_rfl) rfl plain (by kernel_rfl)
end grows
end Go.Proofs.YtfnonogemgnlhaaDoor
