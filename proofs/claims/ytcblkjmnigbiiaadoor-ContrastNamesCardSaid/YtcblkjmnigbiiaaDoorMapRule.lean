/-
  A function that makes a table of functions, and the look-up in it: one step of the walk. Conditions: as each says.
-/
import Derived.Test.YtcblkjmnigbiiaaDoorVO
import Derived.MapKept

set_option linter.unusedVariables false
namespace Go.Vw
open Go.RowKit

theorem run_mapUpdate_new {P : Program} {w : World} {mty kt et : TypeId} {r clock : Nat} {es : Array MapEntry} {d : TypeDesc} {key val : Value} (hm : P.underlying mty = some (.map kt et)) (hk : P.underlying kt = some d) (hi : MapKept.IsKey d key) (hb : w.heap[r]? = some (.map es clock)) (hf : Instr.findNow d key es.toList 0 = some none) :
    (Instr.mapUpdate mty (.map (some r)) key val).run P w = .ok () { w with heap := w.heap.setIfInBounds r (.map (es.push { key := key, val := val, born := clock }) (clock + 1)) } := by
  have hc : (Instr.checkKey false 10000 kt key).run P w = .ok () w := MapKept.run_checkKey hk hi false 9999
  simp [Instr.mapUpdate, run_underlying hm, MapKept.run_getObj_map hb, hc, MapKept.run_findKey hk hf, MapKept.run_setObj_map _ hb, Result.andThen]

theorem below_map {n r : Nat} {w : World} {o o' : Obj} (hb : w.heap[r]? = some o) (hr : n ≤ r) : Below n w { w with heap := w.heap.setIfInBounds r o' } :=
  ⟨rfl, rfl, rfl, by simp, fun k hk => (MapKept.heap_set (o' := o') hb).2 k (by omega)⟩

/-- The function lays a table with these entries, and does no more. -/
structure Lays (P : Program) (f : FuncId) (es : Array MapEntry) (clock : Nat) : Prop where
  enters : Enters P f
  run : ∀ w : World, Calls P f #[] w fun e w' => ∃ b, e = .returned (.map (some b)) ∧ Below w.heap.size w w' ∧ w'.heap[b]? = some (.map es clock)

theorem awpL_lookup {X : Ctx} {all : Array Oper} {Q : Exit → St → Prop} {s : St} {rest : List Oper} {o1 o2 o3 : Oper} {c : Call} {d1 d2 d3 : Nat} {f g : FuncId} {es : Array MapEntry} {clock : Nat} {mt kt et : TypeId} {kd : IntKind} {n : Int} {x : Operand}
    (hl : Lays X.P f es clock) (h1 : o1.op = .call c) (h1a : c.args = #[]) (h1c : c.callee = .value (.func f)) (h1d : o1.dst = some d1) (h1g : o1.guard = none) (hd1 : d1 < X.N)
    (h2 : o2.op = .move x) (h2d : o2.dst = some d2) (h2g : o2.guard = none) (hd2 : d2 < X.N) (hne : d2 ≠ d1) (hx : (s.put (some d1) (.d .undef)).opd x = .d (.int kd n))
    (h3 : o3.op = .lookup mt (.tmp d1) (.tmp d2) false) (h3d : o3.dst = some d3) (h3g : o3.guard = none) (hd3 : d3 < X.N)
    (hm : X.P.underlying mt = some (.map kt et)) (hk : X.P.underlying kt = some (.int kd)) {i : Nat} (hf : Instr.findNow (.int kd) (.int kd n) es.toList 0 = some (some (i, .func (.func g) #[] #[])))
    (K : awpL X all rest Q (((s.put (some d1) (.d .undef)).put (some d2) (.d (.int kd n))).put (some d3) (.fn g []))) : awpL X all (o1 :: o2 :: o3 :: rest) Q s := by
  intro io F a w hs
  refine wpList_cons ?_
  have hc : calleeOf s c = some (f, []) := by simp only [calleeOf, h1c, St.opd]; rfl
  obtain ⟨vs, hrun, hlen, hvs⟩ := run_call (P := X.P) (operands_of (all := all) (fun t _ => hs.tm t)) h1 hc hl.enters
  have hvs0 : vs = #[] := by
    rw [h1a] at hlen
    simpa using hlen
  subst hvs0
  have hgd : ∀ {o : Oper} {s' : St}, o.guard = none → gd all s' o = some true := fun h => by unfold gd; rw [h]
  unfold opWp
  rw [if_pos (gd_sound (fun t _ => hs.tm t) (hgd h1g))]; left
  unfold Oper.wp; rw [hrun]
  simp only [Oper.upon]
  refine (hl.run w).mono fun e w1 ⟨b, he, hb1, hb2⟩ => ?_
  subst he
  have hs1 : SR X io F (s.put o1.dst (.d .undef)) (a.put o1.dst (.map (some b))) w1 := (hs.grow hb1 (fun _ h => h) (fun _ h => .inl h)).put (fun d h => by rw [h1d] at h; cases h; exact hd1) (VR.undef _)
  refine wpList_cons (opWp_value (gd_sound (fun t _ => hs1.tm t) (hgd h2g)) (v := (a.put o1.dst (.map (some b))).eval x) (w' := w1) (by simp [execOp, h2]) ?_)
  have hv2 := hs1.opd x
  rw [h1d, hx] at hv2
  simp only [VR, DR] at hv2
  rw [h1d] at hs1 ⊢
  rw [hv2]
  have hs2 := hs1.put (dst := o2.dst) (x := .d (.int kd n)) (v := .int kd n) (fun d h => by rw [h2d] at h; cases h; exact hd2) (by simp only [VR, DR])
  have hn1 : (a.put (some d1) (.map (some b))).tmps.size = X.N := hs1.nt
  have hn0 : a.tmps.size = X.N := hs.nt
  have e1 : ((a.put (some d1) (.map (some b))).put o2.dst (.int kd n)).eval (.tmp d1) = .map (some b) := by
    rw [h2d]
    simp only [Act.eval, Act.put, Array.getD_eq_getD_getElem?]
    rw [Array.getElem?_setIfInBounds_ne hne, Array.getElem?_setIfInBounds_self_of_lt (by omega)]
    rfl
  have e2 : ((a.put (some d1) (.map (some b))).put o2.dst (.int kd n)).eval (.tmp d2) = .int kd n := by
    rw [h2d]
    have : d2 < (a.put (some d1) (.map (some b))).tmps.size := by rw [hn1]; exact hd2
    simp only [Act.eval, Act.put, Array.getD_eq_getD_getElem?] at this ⊢
    rw [Array.getElem?_setIfInBounds_self_of_lt this]
    rfl
  have hrun3 : (execOp ((a.put (some d1) (.map (some b))).put o2.dst (.int kd n)).eval o3).run X.P w1 = .ok (.value (.func (.func g) #[] #[])) w1 := by
    have hck : (Instr.checkKey es.isEmpty 10000 kt (.int kd n)).run X.P w1 = .ok () w1 := MapKept.run_checkKey hk (by simp [MapKept.IsKey]) _ 9999
    simp [execOp, h3, e1, e2, Instr.lookup, run_underlying hm, MapKept.run_getObj_map hb2, hck, MapKept.run_findKey hk hf, Result.andThen]
  refine wpList_cons (opWp_value (gd_sound (fun t _ => hs2.tm t) (hgd h3g)) hrun3 ?_)
  have hs3 := hs2.put (dst := o3.dst) (x := .fn g []) (v := .func (.func g) #[] #[]) (fun d h => by rw [h3d] at h; cases h; exact hd3) (by simp only [VR]; exact ⟨#[], rfl, rfl, by simp only [VRA]⟩)
  rw [h2d, h3d] at hs3
  rw [h2d, h3d]
  exact K _ _ _ _ hs3
end Go.Vw
