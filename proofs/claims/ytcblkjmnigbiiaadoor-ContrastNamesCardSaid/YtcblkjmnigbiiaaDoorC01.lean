/-
  Contracts of functions of the program, walked with the abstract layer. Conditions: as each says.
-/
import Derived.Test.YtcblkjmnigbiiaaDoorR05
import Derived.Test.YtcblkjmnigbiiaaDoorMapRule
set_option linter.unusedVariables false
set_option linter.unusedSimpArgs false
namespace Go.Proofs.YtcblkjmnigbiiaaDoor
open Go.Vw
attribute [local irreducible] awp awpL awpR

def ents : Array MapEntry := #[⟨.int .i64 4, .func (.func 43) #[] #[], 0⟩, ⟨.int .i64 1, .func (.func 45) #[] #[], 1⟩, ⟨.int .i64 2, .func (.func 46) #[] #[], 2⟩, ⟨.int .i64 3, .func (.func 47) #[] #[], 3⟩]
theorem und52 : Tryd.prog.underlying 52 = some (.map 3 51) := (tab 52 _ rfl).und
theorem und3 : Tryd.prog.underlying 3 = some (.int .i64) := (tab 3 _ rfl).und
theorem set_push (l : Array Obj) (o o' : Obj) : (l.push o).setIfInBounds l.size o' = l.push o' := by
  apply Array.ext'
  simp
theorem put_tabl (w : World) (es : Array MapEntry) (k : Nat) (n : Int) (v : Value) (hf : Instr.findNow (.int .i64) (.int .i64 n) es.toList 0 = some none) :
    (Instr.mapUpdate 52 (.map (some w.heap.size)) (.int .i64 n) v).run Tryd.prog (w.alloc (.map es k)) = .ok () (w.alloc (.map (es.push ⟨.int .i64 n, v, k⟩) (k + 1))) := by
  rw [run_mapUpdate_new (es := es) (clock := k) und52 und3 (by simp [MapKept.IsKey]) (MapKept.heap_alloc w _).1 hf]
  congr 1
  unfold World.alloc
  simp only [set_push]
theorem ins_tabl {w : World} {es : Array MapEntry} {k : Nat} {n : Int} {g : FuncId} {a : Act} {o : Oper} (ho : o.op = .insert 52 (.tmp 1) (.const (.int .i64 n)) (.func g)) (ha : a.eval (.tmp 1) = .map (some w.heap.size)) (hf : Instr.findNow (.int .i64) (.int .i64 n) es.toList 0 = some none) :
    (execOp a.eval o).run Tryd.prog (w.alloc (.map es k)) = .ok .skip (w.alloc (.map (es.push ⟨.int .i64 n, .func (.func g) #[] #[], k⟩) (k + 1))) := by
  have := put_tabl w es k n (.func (.func g) #[] #[]) hf
  have e1 : a.eval (.const (.int .i64 n)) = .int .i64 n := rfl
  have e2 : a.eval (.func g) = .func (.func g) #[] #[] := rfl
  simp only [execOp, ho, ha, e1, e2]
  simp [this, Result.andThen]
theorem entries_lays : Lays Tryd.prog 23 ents 4 := by
  refine ⟨⟨Tryd.f23, rfl, rfl, rfl⟩, fun w => ?_⟩
  refine calls_of_wp (fn := Tryd.f23) rfl rfl ?_
  refine wp_seq (wp_region_lit ?_)
  refine wpList_cons (opWp_value rfl rfl ?_)
  refine wp_seq (wp_region_lit ?_)
  refine wpList_cons (opWp_value (v := .map (some w.heap.size)) (w' := w.alloc (.map #[] 0)) rfl rfl ?_)
  refine wpList_cons (opWp_skip rfl (ins_tabl rfl rfl rfl) ?_)
  refine wpList_cons (opWp_skip rfl (ins_tabl rfl rfl rfl) ?_)
  refine wpList_cons (opWp_skip rfl (ins_tabl rfl rfl rfl) ?_)
  refine wpList_cons (opWp_skip rfl (ins_tabl rfl rfl rfl) ?_)
  refine wpList_cons (opWp_value rfl rfl ?_)
  refine wpList_cons (opWp_value rfl rfl ?_)
  refine wp_ret ?_
  refine ⟨rfl, .map (some w.heap.size), ?_, w.heap.size, rfl, below_alloc _ _, ?_⟩
  · rw [results_eq]
    have h : ∀ tm : Array Value, (do let vs ← Tryd.f23.results.mapM (runRes tm); pure (if h : vs.size = 1 then vs[0] else .tuple vs) : Sem Value) = pure (tm.getD 0 undef) := fun tm => by
      have : Tryd.f23.results = #[.tmp 0] := rfl
      rw [this]
      simp [runRes]
    rw [h]; rfl
  exact (MapKept.heap_alloc w _).1
end Go.Proofs.YtcblkjmnigbiiaaDoor
