/-
  Bytes as a string, and a string as bytes. Conditions: the table of types is the program's.
-/
import Derived.Test.YtcblkjmnigbiiaaDoorVL
import Derived.Laws.IdiomStrings
set_option linter.unusedSimpArgs false
set_option linter.unusedVariables false
namespace Go.Vw
open Go.RowKit

@[reducible] def eB (b : UInt8) : List D := [.int .u8 (b.toNat : Int)]

section
variable {X : Ctx} {T : TypeId → Option TyD} (hT : TabOk X.P T) {all : Array Oper} {s : St} {o : Oper} {src dst e : TypeId} {y : Operand} {sd ed dd : TyD} {l : List UInt8}
include hT
theorem run_b2s {F : Nat → Prop} {w : World} {v : Value} (hs : T src = some sd) (hsd : sd.desc = .slice e) (he : T e = some ed) (hed : ed.desc = .int .u8) (hd : T dst = some dd) (hdd : dd.desc = .string) (h : DR F w (.sl 1 eB 0 l) v) : (convert src dst v).run X.P w = .ok (.string ⟨l.toArray⟩) w := by
  have h1 := (hT _ _ hs).und
  have h2 := (hT _ _ he).und
  have h3 := (hT _ _ hd).und
  rw [hsd] at h1; rw [hed] at h2; rw [hdd] at h3
  simp only [DR] at h
  rcases h with ⟨⟨p, rfl⟩, rfl⟩ | ⟨b, off, cap, arr, ty, fz, rfl, _, _, hh, hl⟩
  · cases p with
    | none =>
      rw [run_convert_bytes_string w src dst e none 0 0 h1 h2 h3]
      rfl
    | some a => exact run_convert_bytes_back w src dst e a 0 [] h1 h2 h3 fun j hj => by simp at hj
  · refine run_convert_bytes_back w src dst e _ cap l h1 h2 h3 fun j hj => ?_
    obtain ⟨_, q⟩ := hl j l[j] (List.getElem?_eq_getElem hj)
    simp only [DRA, DR, Nat.mul_one] at q
    obtain ⟨⟨v, q1, _, rfl⟩, _⟩ := q
    rw [add_plain]
    simp [World.cell?, hh, q1]
theorem m_b2s {d1 : D} (hop : o.op = .convert src dst y) (hg : gd all s o = some true) (hs : T src = some sd) (hsd : sd.desc = .slice e) (he : T e = some ed) (hed : ed.desc = .int .u8) (hd : T dst = some dd) (hdd : dd.desc = .string) (hy : s.opd y = .d d1) (le : LeD d1 (.sl 1 eB 0 l)) : M1 X all s o (.d (.str l)) := fun io F a w ht hb hF K Q hK => by
  obtain ⟨dst', op, ty, pos, after, g⟩ := o
  cases hop
  have hvy := operands_of ht y (by simp [Op.operands])
  rw [hy] at hvy
  simp only [VR] at hvy
  have hr := run_b2s (X := X) hT hs hsd he hed hd hdd (le F w _ hvy)
  refine opWp_value (gd_sound ht hg) (v := .string ⟨l.toArray⟩) (w' := w) ?_ (hK F w _ (Below.refl _ _) (fun _ h => h) (fun _ h => .inl h) (by simp only [VR, DR]))
  simp [execOp, hr]
theorem m_b2sO {k o1 n : Nat} {ty ty' : TypeId} {z : UInt8} (hop : o.op = .convert src dst y) (hg : gd all s o = some true) (hs : T src = some sd) (hsd : sd.desc = .slice e) (he : T e = some ed) (hed : ed.desc = .int .u8) (hd : T dst = some dd) (hdd : dd.desc = .string) (hy : s.opd y = .own k o1 n ty 1) (hk : s.blk k = some (.data ty' 1 eB z l)) : M1 X all s o (.d (.str (cut o1 n l))) := fun io F a w ht hb hF K Q hK => by
  obtain ⟨dst', op, ty0, pos, after, g⟩ := o
  cases hop
  have hvy := operands_of ht y (by simp [Op.operands])
  rw [hy] at hvy
  have hdr := asD_own hb hk hvy
  have hr := run_b2s (X := X) hT hs hsd he hed hd hdd (l := cut o1 n l) (F := Lent s io F) (w := w) (v := a.eval y) (by simpa only [DR] using hdr)
  refine opWp_value (gd_sound ht hg) (v := .string ⟨(cut o1 n l).toArray⟩) (w' := w) ?_ (hK F w _ (Below.refl _ _) (fun _ h => h) (fun _ h => .inl h) (by simp only [VR, DR]))
  simp [execOp, hr]
theorem m_s2b (hop : o.op = .convert src dst y) (hg : gd all s o = some true) (hs : T src = some sd) (hsd : sd.desc = .string) (hd : T dst = some dd) (hdd : dd.desc = .slice e) (he : T e = some ed) (hed : ed.desc = .int .u8) (hy : s.opd y = .d (.str l)) : M1 X all s o (.d (.sl 1 eB 0 l)) := fun io F a w ht hb hF K Q hK => by
  obtain ⟨dst', op, ty0, pos, after, g⟩ := o
  cases hop
  have hvy := operands_of ht y (by simp [Op.operands])
  rw [hy] at hvy
  simp only [VR, DR] at hvy
  have h1 := (hT _ _ hs).und
  have h2 := (hT _ _ he).und
  have h3 := (hT _ _ hd).und
  rw [hsd] at h1; rw [hed] at h2; rw [hdd] at h3
  have hr := run_bytes_of_string (P := X.P) w src dst e ⟨l.toArray⟩ h1 h3 h2
  generalize hcap : grownCap w (ByteArray.mk l.toArray).size 0 e = cap at hr
  have hge : l.length ≤ cap := by rw [← hcap]; exact grownCap_ge w _ 0 e
  have hsz : (ByteArray.mk l.toArray).size = l.length := by simp [ByteArray.size]
  rw [hsz] at hr
  have hbw : Below w.heap.size w (w.drew.alloc (.cells (bytesRow ⟨l.toArray⟩ cap) e ((bytesRow ⟨l.toArray⟩ cap).size, (bytesRow ⟨l.toArray⟩ cap).size + 1))) := ((Below.refl _ _).drew).alloc (Nat.le_refl _) _
  refine opWp_value (gd_sound ht hg) (v := .slice (some ⟨w.heap.size, 0, none⟩) l.length cap) (by simp only [execOp, hvy, Sem.run_bind, hr, Result.andThen_ok, Sem.run_pure]) (hK (fun b => F b ∨ b = w.heap.size) _ _ hbw (fun b h => .inl h) (fun b h => ?_) ?_)
  · rcases h with h | h
    · exact .inl h
    · exact .inr ⟨by omega, by subst h; exact lt_of_heap (heap_alloc_new w.drew _)⟩
  · simp only [VR, DR]
    refine .inr ⟨w.heap.size, 0, cap, _, e, _, rfl, hge, .inr rfl, heap_alloc_new w.drew _, fun i b hi => ⟨rfl, ?_⟩⟩
    simp only [DRA, DR, Nat.zero_add, Nat.mul_one]
    refine ⟨⟨.int .u8 b.toNat, ?_, rfl, rfl⟩, trivial⟩
    have hil := (List.getElem?_eq_some_iff.1 hi).1
    simp only [bytesRow]
    rw [Array.getElem?_append_left (by simpa using hil)]
    simp [hi]
end
end Go.Vw
