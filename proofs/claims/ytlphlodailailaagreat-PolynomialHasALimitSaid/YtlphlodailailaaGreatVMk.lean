/-
  New lists of zeros in statements whose order is open. Conditions: the table of types is the program's.
-/
import Derived.Test.YtlphlodailailaaGreatA07
import Derived.Test.YtlphlodailailaaGreatA08
set_option linter.unusedSimpArgs false
set_option linter.unusedVariables false
set_option linter.unusedSectionVars false
namespace Go.Vw
open Go.RowKit

theorem m_makeF {X : Ctx} {T : TypeId → Option TyD} (hT : TabOk X.P T) {all : Array Oper} {s : St} {o : Oper} {t e : TypeId} {lo co : Operand} {td ed : TyD} {n : Int} {mm : Bool} {C : Prop} {j : Nat} {α : Type} {en : α → List D} {z : α} (hop : o.op = .makeSlice t lo co)
    (hg : gd all s o = some true) (ht : T t = some td) (hds : td.desc = .slice e) (he : T e = some ed) (hl : intOfV (s.opd lo) = some n) (hc : intOfV (s.opd co) = some n) (hn : natOf mm n = some (C, ⟨j⟩)) (hz : zeroOk ed = true) (le : LeL (D.ofV ed.zero).cells (en z)) (hC : C) (hb : n * ed.bytes ≤ 140737488355328 ∧ n ≤ 9223372036854775807) :
    M1 X all s o (.d (.full (.sl ed.size en z (List.replicate j z)))) := fun io F a w ht2 hbl hF K Q hK => by
  obtain ⟨dst, op, ty, pos, after, g⟩ := o
  cases hop
  have hw := gd_sound ht2 hg
  have hop' := operands_of ht2
  obtain ⟨g0, g1⟩ := natOf_spec hn hC
  simp only at g1
  obtain ⟨b2, b3⟩ := hb
  obtain ⟨k1, e1⟩ := intOfV_sound hl (hop' lo (by simp [Op.operands]))
  obtain ⟨k2, e2⟩ := intOfV_sound hc (hop' co (by simp [Op.operands]))
  have hu := (hT _ _ ht).runU w
  rw [hds] at hu
  have wl : IntKind.i64.wrap n = n := IntWalk.i64_in n (by omega)
  obtain ⟨i, hi, his, hib, hiz⟩ := (hT _ _ he).inf
  obtain ⟨z1, _, _, _⟩ := zeroOk_sound (F := F) (w := w) hz
  have hrow : ((Array.range (n.toNat * ed.size)).map fun j => ed.zero.cells[j % ed.zero.cells.size]!) = (List.replicate n.toNat ed.zero.cells.toList).flatten.toArray := by
    rw [← z1]; exact range_zero _ (by omega) _
  have hrun : (Instr.makeSlice t (a.eval lo) (a.eval co)).run X.P w = .ok (.slice (some ⟨w.heap.size, 0, none⟩) n.toNat n.toNat) (w.alloc (.cells (List.replicate n.toNat ed.zero.cells.toList).flatten.toArray e)) := by
    have hnb : ¬ ((ed.bytes : Int) * n > 2 ^ 48) := by
      have : (ed.bytes : Int) * n = n * ed.bytes := Int.mul_comm _ _
      omega
    simp only [Instr.makeSlice, Sem.run_bind, hu, Result.andThen_ok, e1, e2, asInt, asIntOf, Sem.run_pure, typeInfo, run_program, hi, hib, wl]
    have hif : ¬ (((decide (n < 0) || decide ((ed.bytes : Int) * n > 2 ^ 48)) || decide (n < 0) || decide (n > n)) = true) := by
      simp; omega
    rw [if_neg hif]
    simp only [Sem.run_bind, run_askRoom, Result.andThen_ok, (hT _ _ he).runS]
    by_cases hz : n.toNat * ed.size = 0
    · simp only [hz, if_true, Sem.run_pure, Result.andThen_ok]
      have : n.toNat = 0 := by
        rcases Nat.mul_eq_zero.1 hz with h | h
        · exact h
        · omega
      simp [this, newRow]
      congr 2
      apply Array.ext'
      simp
    · simp only [hz, if_false, Sem.run_bind, (hT _ _ he).runZ, Result.andThen_ok, Sem.run_pure, hrow]
      simp [newRow]
  refine opWp_value hw (w' := w.alloc (.cells (List.replicate n.toNat ed.zero.cells.toList).flatten.toArray e)) (v := .slice (some ⟨w.heap.size, 0, none⟩) n.toNat n.toNat) (by simp only [execOp, Sem.run_bind, hrun, Result.andThen_ok]; rfl) (hK (fun b => F b ∨ b = w.heap.size) _ _ (below_alloc w _) (fun b h => .inl h) (fun b h => ?_) ?_)
  · rcases h with h | h
    · exact .inl h
    · exact .inr ⟨by omega, by simp; omega⟩
  · obtain ⟨y1, y2, y3, y4⟩ := zeroOk_sound (F := fun b => F b ∨ b = w.heap.size) (w := w.alloc (.cells (List.replicate n.toNat ed.zero.cells.toList).flatten.toArray e)) hz
    simp only [VR, DR]
    exact ⟨⟨_, _, rfl⟩, .inr ⟨w.heap.size, 0, n.toNat, _, e, (0, 0), by rw [List.length_replicate, g1], by rw [List.length_replicate]; omega, .inr rfl, heap_alloc_new w _, lra_replicate y1 y2 y3 y4 le j n.toNat (by omega)⟩⟩
section
variable {ex : Bool} {X : Ctx} {all : Array Oper} {Q : Exit → St → Prop} {s : St} {o : Oper} {pre rest : List Oper} {d : Tmp}
theorem stepRMakeF {mm : Bool} {t e : TypeId} {lo co : Operand} {td ed : TyD} {n : Int} {C : Prop} {j : Nat} {α : Type} {en : α → List D} {z : α} (hkk : Nat.beq (opK o.op) 4 = true) (hop : o.op = .makeSlice t lo co) (hdst : o.dst = some d) (hla : (litApp d pre || litApp d rest) = true) (hg : gd all s o = some true) (hd : dstOk X.N (some d) = true) (ht : X.T t = some td) (hds : td.desc = .slice e) (he : X.T e = some ed) (hl : intOfV (s.opd lo) = some n) (hc : intOfV (s.opd co) = some n) (hn : natOf mm n = some (C, ⟨j⟩)) (hz : zeroOk ed = true) (le : LeL (D.ofV ed.zero).cells (en z)) (hC : C) (hb : n * ed.bytes ≤ 140737488355328 ∧ n ≤ 9223372036854775807) (k : awpR ex X all pre rest Q (s.put (some d) (.d (.full (.sl ed.size en z (List.replicate j z)))))) : awpR ex X all (o :: pre) rest Q s := awpR_cons (isMove_k hkk (by decide)) (isAlloc_k hkk (by decide)) (isLoad_k hkk (by decide)) hdst hd (m_makeF X.ok hop hg ht hds he hl hc hn hz le hC hb) k
end
end Go.Vw
