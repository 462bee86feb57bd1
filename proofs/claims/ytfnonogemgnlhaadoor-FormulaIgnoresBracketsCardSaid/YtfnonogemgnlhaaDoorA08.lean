/-
  Contracts of functions of the program, and the layer that they are walked with: VW VX Limbs LimbsB LimbsC Ints Rats RatsQ RatsC RatsD RatsM Nats NatsB NatsC NatsD NatsE NatsF NatsG Itv VY FmL F23 FmM F24 F27 F28. Conditions: as each says.
-/
import Derived.Deep.Slices
import Derived.Carry
import Derived.OpenShut
import Derived.WalkKit
import Derived.ProofKit
import Derived.Deep.DeepHandedRow
import Derived.Lib.LaidTab
import Derived.Test.YtfnonogemgnlhaaDoorA07
/-
  What an argument of a law holds, as a value of a plain type: whatever can be read of it, it stands for. Conditions: the type's shape is as its code says (a closed fact).
-/
set_option linter.unusedSimpArgs false
set_option linter.unusedVariables false
set_option linter.unusedSectionVars false
namespace Go.Vw
open Go.RowKit Go.ChangeShapes Go.WideShapes

mutual
inductive Ty where
  | int (k : IntKind)
  | bool
  | str
  | struct (fs : Tys)
  | slice (e : Ty)
inductive Tys where
  | nil
  | cons (t : Ty) (ts : Tys)
end
mutual
def Ty.Val : Ty → Type
  | .int _ => Int
  | .bool => Bool
  | .str => List UInt8
  | .struct fs => fs.Val
  | .slice e => List e.Val
def Tys.Val : Tys → Type
  | .nil => Unit
  | .cons t ts => t.Val × ts.Val
end
mutual
def Ty.zero : (t : Ty) → t.Val
  | .int _ => (0 : Int)
  | .bool => false
  | .str => ([] : List UInt8)
  | .struct fs => fs.zero
  | .slice e => ([] : List e.Val)
def Tys.zero : (ts : Tys) → ts.Val
  | .nil => ()
  | .cons t ts => (t.zero, ts.zero)
end
mutual
def Ty.width : Ty → Nat
  | .int _ => 1
  | .bool => 1
  | .str => 1
  | .struct fs => fs.width
  | .slice _ => 1
def Tys.width : Tys → Nat
  | .nil => 0
  | .cons t ts => t.width + ts.width
end
mutual
def Ty.cells : (t : Ty) → t.Val → List D
  | .int k, (n : Int) => [.int k n]
  | .bool, (b : Bool) => [.bool b]
  | .str, (s : List UInt8) => [.str s]
  | .struct fs, v => fs.cells v
  | .slice e, (l : List e.Val) => [.sl e.width e.cells e.zero l]
def Tys.cells : (ts : Tys) → ts.Val → List D
  | .nil, _ => []
  | .cons t ts, v => t.cells v.1 ++ ts.cells v.2
end
mutual
def Ty.wf : (t : Ty) → t.Val → Prop
  | .int k, (n : Int) => (Lit.int k n).wf = true
  | .bool, _ => True
  | .str, (s : List UInt8) => s.length ≤ maxLen
  | .struct fs, v => fs.wf v
  | .slice e, (l : List e.Val) => l.length ≤ maxLen ∧ ∀ a ∈ l, e.wf a
def Tys.wf : (ts : Tys) → ts.Val → Prop
  | .nil, _ => True
  | .cons t ts, v => t.wf v.1 ∧ ts.wf v.2
end
mutual
def Ty.ok (P : Program) : Ty → TypeId → Bool
  | .int k, t => match P.underlying t with | some (.int k') => decide (k' = k) | _ => false
  | .bool, t => match P.underlying t with | some .bool => true | _ => false
  | .str, t => match P.underlying t with | some .string => true | _ => false
  | .struct fs, t => match P.underlying t with | some (.struct fields) => Nat.beq (P.cellsOf t) fs.width && Tys.ok P fs fields.toList 0 | _ => false
  | .slice e, t => match P.underlying t with | some (.slice te) => Nat.beq (P.cellsOf te) e.width && Nat.blt 0 e.width && Ty.ok P e te | _ => false
def Tys.ok (P : Program) : Tys → List Field → Nat → Bool
  | .nil, fs, _ => match fs with | [] => true | _ :: _ => false
  | .cons t ts, fs, off => match fs with
    | f :: fs => Nat.beq f.offset off && Nat.beq (P.cellsOf f.type) t.width && Ty.ok P t f.type && Tys.ok P ts fs (off + t.width)
    | [] => false
end
mutual
theorem Ty.cells_len : ∀ (t : Ty) (v : t.Val), (t.cells v).length = t.width
  | .int k, v => rfl
  | .bool, v => rfl
  | .str, v => rfl
  | .struct fs, v => by simp only [Ty.cells, Ty.width]; exact Tys.cells_len fs v
  | .slice e, v => rfl
theorem Tys.cells_len : ∀ (ts : Tys) (v : ts.Val), (ts.cells v).length = ts.width
  | .nil, v => rfl
  | .cons t ts, v => by simp only [Tys.cells, Tys.width, List.length_append]; rw [Ty.cells_len t v.1, Tys.cells_len ts v.2]
end

def allF (w : World) : Nat → Prop := fun b => b < w.heap.size
section
variable {H : Type} {enc : TypeId × Value → H} {P : Program} {w : World} {held : Bool}

theorem dra_one {F : Nat → Prop} {g : Nat → Option Value} {off : Nat} {x : D} {v : Value} (h0 : g off = some v) (h1 : v.oneCell' = true) (h : DR F w x v) : DRA F w g off [x] := by
  simp only [DRA]; exact ⟨⟨v, h0, h1, h⟩, trivial⟩
theorem dra_app {F : Nat → Prop} {g : Nat → Option Value} {xs ys : List D} {off : Nat} (h : DRA F w g off xs) (k : DRA F w g (off + xs.length) ys) : DRA F w g off (xs ++ ys) := by
  rw [DRA_iff] at h k ⊢
  intro i c hi
  by_cases hl : i < xs.length
  · rw [List.getElem?_append_left hl] at hi; exact h i c hi
  · rw [List.getElem?_append_right (by omega)] at hi
    obtain ⟨v, h1, h2⟩ := k _ c hi
    exact ⟨v, by rw [← h1]; congr 1; omega, h2⟩
theorem row_of_cells {a : Addr} {n : Nat} {cs : List Value} (h : w.cells? 0 a n = some cs) (hn : 0 < n) : ∃ b o arr ty fz, a = ⟨b, o, none⟩ ∧ w.heap[b]? = some (.cells arr ty fz) := by
  obtain ⟨_, hl, hc⟩ := World.cells?_some h
  have h0 := hc 0 hn
  rw [List.getElem?_eq_getElem (by omega)] at h0
  obtain ⟨b, o, sp⟩ := a
  unfold World.cell? at h0
  split at h0
  · rename_i c ty fz hh
    split at h0
    · cases h0
    · rename_i hs
      cases sp with
      | none => exact ⟨b, o, c, ty, fz, rfl, hh⟩
      | some s => exact absurd rfl hs
  · cases h0

mutual
theorem Ty.reads : ∀ (ty : Ty) (fuel : Nat) (t : TypeId) (cs : List Value) (x : DataW H × List MemPlace), ty.ok P t = true → DataW.trod enc P w 0 (fun _ => true) held fuel t cs = some x → ∃ v : ty.Val, ty.wf v ∧ cs.length = ty.width ∧ DRA (allF w) w (fun i => cs[i]?) 0 (ty.cells v)
  | .int k, fuel, t, cs, x, hok, h => by
    simp only [Ty.ok] at hok
    split at hok
    · rename_i k' hu
      have hk := of_decide_eq_true hok
      subst hk
      obtain ⟨n, rfl, _, hw⟩ := DataW.trod_int hu h
      exact ⟨(n : Int), hw, rfl, dra_one rfl rfl (by simp only [DR])⟩
    · cases hok
  | .bool, fuel, t, cs, x, hok, h => by
    simp only [Ty.ok] at hok
    split at hok
    · rename_i hu
      obtain ⟨b, rfl, _⟩ := DataW.trod_bool hu h
      exact ⟨(b : Bool), trivial, rfl, dra_one rfl rfl (by simp only [DR])⟩
    · cases hok
  | .str, fuel, t, cs, x, hok, h => by
    simp only [Ty.ok] at hok
    split at hok
    · rename_i hu
      obtain ⟨s, rfl, _, hs⟩ := DataW.trod_string hu h
      refine ⟨(s.data.toList : List UInt8), ?_, rfl, dra_one rfl rfl (by simp only [DR])⟩
      simp only [Ty.wf]
      rw [Array.length_toList]; exact hs
    · cases hok
  | .struct fs, fuel, t, cs, x, hok, h => by
    simp only [Ty.ok] at hok
    split at hok
    · rename_i fields hu
      simp only [Bool.and_eq_true] at hok
      obtain ⟨hw, hf⟩ := hok
      have hw := Nat.eq_of_beq_eq_true hw
      obtain ⟨xs, n, rfl, _, hl, hxl, hx⟩ := DataW.trod_struct hu h
      have hall : ∀ (i : Nat) (f : Field), fields.toList[i]? = some f → ∃ y, DataW.trod enc P w 0 (fun _ => true) held n f.type ((cs.drop f.offset).take (P.cellsOf f.type)) = some y := fun i f hi => by
        rw [Array.getElem?_toList] at hi
        have hlt := (Array.getElem?_eq_some_iff.1 hi).1
        have := hx i f hi
        rw [List.getElem?_eq_getElem (by omega)] at this
        exact ⟨_, this⟩
      obtain ⟨v, h1, h2⟩ := Tys.reads fs n fields.toList 0 cs hf hall
      exact ⟨v, h1, by rw [hl, hw]; rfl, h2⟩
    · cases hok
  | .slice e, fuel, t, cs, x, hok, h => by
    simp only [Ty.ok] at hok
    split at hok
    · rename_i te hu
      simp only [Bool.and_eq_true, Nat.blt_eq] at hok
      obtain ⟨⟨hw, hw0⟩, he⟩ := hok
      have hw := Nat.eq_of_beq_eq_true hw
      rcases Go.Deep.open_slice hu h with ⟨rfl, _⟩ | ⟨a, len, cap, m, n, Dx, Pl, rfl, hb, hlc, hcm, hm, _, hi⟩
      · exact ⟨([] : List e.Val), ⟨by simp, fun a h => by simp at h⟩, rfl, dra_one rfl rfl (by simp only [DR]; exact .inl ⟨⟨_, _, rfl⟩, trivial⟩)⟩
      · have hlm : len ≤ m := by rw [hm]; split <;> omega
        have each : ∀ i, i < len → ∃ v : e.Val, e.wf v ∧ ∃ cs', w.cells? 0 (a.add (i * P.cellsOf te)) (P.cellsOf te) = some cs' ∧ DRA (allF w) w (fun j => cs'[j]?) 0 (e.cells v) := fun i hlt => by
          obtain ⟨cs', h1, h2⟩ := hi i (by omega)
          obtain ⟨v, q1, q2, q3⟩ := Ty.reads e n te cs' _ he h2
          exact ⟨v, q1, cs', h1, q3⟩
        have : ∃ V : Nat → e.Val, ∀ i, i < len → (e.wf (V i) ∧ ∃ cs', w.cells? 0 (a.add (i * P.cellsOf te)) (P.cellsOf te) = some cs' ∧ DRA (allF w) w (fun j => cs'[j]?) 0 (e.cells (V i))) :=
          ⟨fun i => if h : i < len then (each i h).choose else e.zero, fun i h => by
            simp only [h, dif_pos]
            exact (each i h).choose_spec⟩
        obtain ⟨V, hV⟩ := this
        refine ⟨((List.range len).map V : List e.Val), ⟨by simp; omega, fun v hv => ?_⟩, rfl, dra_one rfl rfl ?_⟩
        · simp only [List.mem_map, List.mem_range] at hv
          obtain ⟨i, hlt, rfl⟩ := hv
          exact (hV i hlt).1
        simp only [DR]
        simp only [if_true] at hm
        by_cases hc0 : cap = 0
        · have hl0 : len = 0 := by omega
          subst hl0 hc0
          exact .inl ⟨⟨_, _, rfl⟩, by simp⟩
        · obtain ⟨cs0, h0, _⟩ := hi 0 (by omega)
          rw [Nat.zero_mul, show a.add 0 = a by simp [Addr.add]] at h0
          obtain ⟨b, o, arr, ty, fz, ha, hh⟩ := row_of_cells h0 (by omega)
          have ha' : a = ⟨b, a.off, none⟩ := by subst ha; rfl
          refine .inr ⟨b, a.off, cap, arr, ty, fz, by rw [ha']; simp, by simpa using hlc, lt_of_heap hh, hh, fun i v hv => ?_⟩
          have hlt : i < len := by have := (List.getElem?_eq_some_iff.1 hv).1; simpa using this
          simp [hlt] at hv
          subst hv
          obtain ⟨_, cs', h1, h2⟩ := hV i hlt
          refine ⟨Ty.cells_len _ _, ?_⟩
          obtain ⟨_, hcl, hcc⟩ := World.cells?_some h1
          rw [DRA_iff] at h2 ⊢
          intro j c hj
          obtain ⟨u, p1, p2⟩ := h2 j c hj
          have hjl := (List.getElem?_eq_some_iff.1 hj).1
          rw [Ty.cells_len] at hjl
          refine ⟨u, ?_, p2⟩
          have h3 := hcc j (by omega)
          rw [Nat.zero_add] at p1
          rw [p1, ha', add_plain, add_plain] at h3
          simp only [World.cell?, hh] at h3
          rw [← hw]
          simpa using h3
    · cases hok
theorem Tys.reads : ∀ (ts : Tys) (n : Nat) (fields : List Field) (off : Nat) (cs : List Value), ts.ok P fields off = true → (∀ (i : Nat) (f : Field), fields[i]? = some f → ∃ y, DataW.trod enc P w 0 (fun _ => true) held n f.type ((cs.drop f.offset).take (P.cellsOf f.type)) = some y) → ∃ v : ts.Val, ts.wf v ∧ DRA (allF w) w (fun i => cs[i]?) off (ts.cells v)
  | .nil, n, fields, off, cs, hok, h => ⟨(), trivial, by simp only [Tys.cells, DRA]⟩
  | .cons t ts, n, fields, off, cs, hok, h => by
    simp only [Tys.ok] at hok
    split at hok
    · rename_i f fs
      simp only [Bool.and_eq_true] at hok
      obtain ⟨⟨⟨h1, h2⟩, h3⟩, h4⟩ := hok
      have h1 := Nat.eq_of_beq_eq_true h1
      have h2 := Nat.eq_of_beq_eq_true h2
      obtain ⟨y, hy⟩ := h 0 f rfl
      obtain ⟨v, q1, q2, q3⟩ := Ty.reads t n f.type _ y h3 hy
      obtain ⟨v2, r1, r2⟩ := Tys.reads ts n fs (off + t.width) cs h4 (fun i g hg => h (i + 1) g (by simpa using hg))
      refine ⟨(v, v2), ⟨q1, r1⟩, ?_⟩
      simp only [Tys.cells]
      refine dra_app ?_ (by rw [Ty.cells_len]; exact r2)
      rw [DRA_iff] at q3 ⊢
      intro i c hi
      obtain ⟨u, p1, p2⟩ := q3 i c hi
      have hlt := (List.getElem?_eq_some_iff.1 hi).1
      rw [Ty.cells_len] at hlt
      refine ⟨u, ?_, p2⟩
      rw [Nat.zero_add, List.getElem?_take, if_pos (by omega), List.getElem?_drop, h1] at p1
      exact p1
    · cases hok
end

def Ty.top : (t : Ty) → t.Val → D
  | .int k, (n : Int) => .int k n
  | .bool, (b : Bool) => .bool b
  | .str, (s : List UInt8) => .str s
  | .struct fs, v => .agg (fs.cells v)
  | .slice e, (l : List e.Val) => .sl e.width e.cells e.zero l
theorem Ty.topReads {r : Reach} {b0 : Nat} : ∀ (ty : Ty) (t : TypeId) (v : Value) (d : DataW H) (ps : List MemPlace), ty.ok P t = true → Value.okWide P w r b0 t v → DataW.Trod enc P w 0 (fun _ => true) held t v d ps → ∃ x : ty.Val, ty.wf x ∧ DR (allF w) w (ty.top x) v := fun ty t v d ps hok hv h => by
  obtain ⟨fuel, h⟩ := h
  obtain ⟨x, h1, h2, h3⟩ := Ty.reads ty fuel t _ _ hok h
  refine ⟨x, h1, ?_⟩
  have one : ∀ (y : D), v.cells.toList = [v] → DRA (allF w) w (fun i => v.cells.toList[i]?) 0 [y] → DR (allF w) w y v := fun y e hd => by
    rw [e] at hd
    simp only [DRA] at hd
    obtain ⟨⟨u, hu, _, hd⟩, _⟩ := hd
    simp at hu; subst hu; exact hd
  cases ty with
  | int k =>
    simp only [Ty.ok] at hok
    split at hok
    · rename_i k' hu
      refine one _ ?_ h3
      cases v <;> first | rfl | (simp [Value.okWide, hu, Cell.okWide, Cell.ok] at hv)
    · cases hok
  | bool =>
    simp only [Ty.ok] at hok
    split at hok
    · rename_i hu
      refine one _ ?_ h3
      cases v <;> first | rfl | (simp [Value.okWide, hu, Cell.okWide, Cell.ok] at hv)
    · cases hok
  | str =>
    simp only [Ty.ok] at hok
    split at hok
    · rename_i hu
      refine one _ ?_ h3
      cases v <;> first | rfl | (simp [Value.okWide, hu, Cell.okWide, Cell.ok] at hv)
    · cases hok
  | struct fs =>
    simp only [Ty.ok] at hok
    split at hok
    · rename_i fields hu
      simp only [Value.okWide, hu] at hv
      obtain ⟨arr, rfl, hs, _⟩ := hv
      simp only [Ty.top, DR]
      refine ⟨arr, rfl, ?_, ?_⟩
      · have hc := Tys.cells_len fs x
        have h2' : arr.size = fs.width := by simpa [Value.cells, Ty.width] using h2
        exact h2'.trans hc.symm
      · rw [DRA_iff] at h3 ⊢
        intro i c hi
        obtain ⟨u, p1, p2⟩ := h3 i c hi
        exact ⟨u, by simpa [Value.cells] using p1, p2⟩
    · cases hok
  | slice e =>
    simp only [Ty.ok] at hok
    split at hok
    · rename_i te hu
      refine one _ ?_ h3
      cases v <;> first | rfl | (simp [Value.okWide, hu, Cell.okWide, Cell.ok] at hv)
    · cases hok

def Tys.tops : (ts : Tys) → ts.Val → List D
  | .nil, _ => []
  | .cons t ts, v => t.top v.1 :: ts.tops v.2
def Tys.oks (P : Program) : Tys → List TypeId → Bool
  | .nil, l => match l with | [] => true | _ :: _ => false
  | .cons t ts, l => match l with | a :: r => Ty.ok P t a && Tys.oks P ts r | [] => false
theorem Tys.tops_len : ∀ (ts : Tys) (l : List TypeId) (v : ts.Val), ts.oks P l = true → (ts.tops v).length = l.length
  | .nil, [], _, _ => rfl
  | .nil, _ :: _, _, h => by simp [Tys.oks] at h
  | .cons t ts, [], _, h => by simp [Tys.oks] at h
  | .cons t ts, a :: r, v, h => by
    simp only [Tys.oks, Bool.and_eq_true] at h
    simp only [Tys.tops, List.length_cons, Tys.tops_len ts r v.2 h.2]
theorem Tys.topsRead {r : Reach} {b0 : Nat} : ∀ (tys : Tys) (ts : List TypeId) (vs : List Value) (ds : List (DataW H)) (ps : List MemPlace), tys.oks P ts = true → (∀ (j : Nat) t v, ts[j]? = some t → vs[j]? = some v → Value.okWide P w r b0 t v) → DataW.TrodAll enc P w 0 (fun _ => true) held ts vs ds ps → ∃ x : tys.Val, tys.wf x ∧ vs.length = ts.length ∧ ∀ g off, (∀ i, g (off + i) = vs[i]?) → DRT (allF w) w g off (tys.tops x)
  | .nil, [], vs, ds, ps, _, _, h => by
    cases vs <;> cases ds <;> first | (exact absurd h id) | exact ⟨(), trivial, rfl, fun g off _ => by simp only [Tys.tops, DRT]⟩
  | .nil, _ :: _, _, _, _, hok, _, _ => by simp [Tys.oks] at hok
  | .cons t ts, [], _, _, _, hok, _, _ => by simp [Tys.oks] at hok
  | .cons t ts, a :: r', vs, ds, ps, hok, hv, h => by
    simp only [Tys.oks, Bool.and_eq_true] at hok
    cases vs with
    | nil => cases ds <;> exact absurd h id
    | cons v vs =>
      cases ds with
      | nil => exact absurd h id
      | cons d ds =>
        obtain ⟨p, q, h1, h2, _⟩ := h
        obtain ⟨x, g1, g2⟩ := Ty.topReads t a v d p hok.1 (hv 0 a v rfl rfl) h1
        obtain ⟨y, k1, k2, k3⟩ := Tys.topsRead ts r' vs ds q hok.2 (fun j t' v' e1 e2 => hv (j + 1) t' v' (by simpa using e1) (by simpa using e2)) h2
        refine ⟨(x, y), ⟨g1, k1⟩, by simp [k2], fun g off hg => ?_⟩
        simp only [Tys.tops, DRT]
        refine ⟨⟨v, by simpa using hg 0, g2⟩, k3 g (off + 1) (fun i => ?_)⟩
        rw [Nat.add_assoc, Nat.add_comm 1 i, hg (i + 1)]; simp
end
end Go.Vw

/-
  From a contract on values of plain types to what a law's row asks of a call. Conditions: closed facts of the program's types.
-/
namespace Go.Vw
open Go.ChangeShapes Go.WideShapes Go.ChangeAt Go.RowKit

theorem post_below {H : Type} {enc : TypeId × Value → H} {P : Program} {f : Func} {s : ChangeSpec} {apart fresh handsOn again : Bool} {W W' : World} {args : Array Value} {v : Value} {ds gs : List (DataW H)} {before pa pv : List MemPlace}
    (hW : DataW.Whole enc P f.params.toList s.vars apart W args.toList ds gs before)
    (hres : ∀ (b : Nat) (sp : Nat → Bool) (hd : Bool), DataW.TrodAll enc P W' b sp hd f.resultTypes.toList (v.resultList f.resultTypes.size) (s.fn H (ds ++ gs)).results [])
    (hargs : ∀ sp : Nat → Bool, (∀ p ∈ before, sp p.block = true) → DataW.TrodAll enc P W' 0 sp true f.params.toList args.toList (s.fn H (ds ++ gs)).args pa)
    (hvars : ∀ sp : Nat → Bool, (∀ p ∈ before, sp p.block = true) → DataW.TrodVars enc P W' sp s.vars (s.fn H (ds ++ gs)).vars pv)
    (hps : before = pa ++ pv) (hb : Below W.heap.size W W')
    (hok : ∀ (j : Nat) (t : TypeId) (r : Value), f.resultTypes[j]? = some t → (v.resultList f.resultTypes.size)[j]? = some r → Value.okWide P W' .any 0 t r) :
    s.post enc P f apart fresh handsOn again W args v W' := by
  have hlt := hW.lt
  have hin : ∀ p ∈ before, (fun b => decide (b < W.heap.size)) p.block = true := fun p hp => decide_eq_true (hlt p hp)
  obtain ⟨_, _, _, _, _, hz, hn⟩ := id hW
  refine ⟨ds, gs, before, [], pa, pv, hW, hres _ _ _, hargs _ hin, hvars _ hin, hb.frame _, fun _ => ⟨hok, _, _, ([] ++ pa) ++ pv, ⟨[] ++ pa, pv, trodAll_append (hargs _ fun _ _ => rfl) (hres _ _ _), hvars _ fun _ _ => rfl, rfl, fun b off hp => ?_, fun ha => ?_⟩, fun p hp _ => ?_⟩⟩
  · have hp' : MemPlace.cell b off ∈ before := by rw [hps]; simpa using hp
    rw [hb.frozen (hlt _ hp')]
    exact hz b off hp'
  · have := hn ha
    rw [hps] at this
    simpa using this
  · rw [hps]; simpa using hp

theorem trodAll_stays {H : Type} {enc : TypeId × Value → H} {P : Program} {W W' : World} {sp' : Nat → Bool} (hl : laidOutB P = true) : ∀ {ts : List TypeId} {vs : List Value} {ds : List (DataW H)} {ps : List MemPlace}, (ts.all fun t => P.readableRec t && decide (t < P.types.size)) = true → DataW.TrodAll enc P W 0 (fun _ => true) true ts vs ds ps → (∀ p ∈ ps, W.sameAt W' p) → (∀ p ∈ ps, sp' p.block = true) → DataW.TrodAll enc P W' 0 sp' true ts vs ds ps
  | [], [], [], _, _, h, _, _ => h
  | [], _ :: _, _, _, _, h, _, _ => absurd h id
  | [], [], _ :: _, _, _, h, _, _ => absurd h id
  | _ :: _, [], _, _, _, h, _, _ => absurd h id
  | _ :: _, _ :: _, [], _, _, h, _, _ => absurd h id
  | t :: ts, v :: vs, d :: ds, _, ht, ⟨p, q, h1, h2, e⟩, hsame, hs => by
    subst e
    simp only [List.all_cons, Bool.and_eq_true, decide_eq_true_eq] at ht
    exact ⟨p, q, WideElems.Trod_stays hl ht.1.1 ht.1.2 h1 (fun x hx => hsame x (by simp [hx])) (fun x hx => hs x (by simp [hx])), trodAll_stays hl ht.2 h2 (fun x hx => hsame x (by simp [hx])) (fun x hx => hs x (by simp [hx])), rfl⟩

theorem law_contract {P : Program} {f : FuncId} {fn : Func} {s : ChangeSpec} {rt : TypeId} (tys : Tys) (hl : laidOutB P = true) (hok : tys.oks P fn.params.toList = true) (hp : (fn.params.toList.all fun t => P.readableRec t && decide (t < P.types.size)) = true) (hv : s.vars = []) (hr : fn.resultTypes = #[rt]) (hrt : P.underlying rt = some .bool) (hc : ∀ x : tys.Val, tys.wf x → Ret P f (tys.tops x) (· = .bool true))
    (H : Type) (enc : TypeId × Value → H) (hs : ∀ ds : List (DataW H), ds.length = fn.params.toList.length → (s.fn H ds).results = [.lit (.bool true)] ∧ (s.fn H ds).args = ds ∧ (s.fn H ds).vars = [])
    (W : World) (base : Nat) (args : Array Value) (ds gs : List (DataW H)) (before : List MemPlace)
    (hval : ∀ (j : Nat) t v, fn.params[j]? = some t → args[j]? = some v → Value.okWide P W .any base t v)
    (hW : DataW.Whole enc P fn.params.toList s.vars false W args.toList ds gs before) :
    Calls P f args W fun e W' => ∃ v, e = .returned v ∧ s.post enc P fn false true false false W args v W' := by
  have hW' := hW
  have hlt := hW.lt
  obtain ⟨p, q, hA, hV, rfl, hfz, hnd⟩ := hW
  rw [hv] at hV
  obtain ⟨rfl, rfl⟩ := trodVars_none hV
  obtain ⟨x, hx, hlen, hd⟩ := Tys.topsRead tys fn.params.toList args.toList ds p hok (fun j t v h1 h2 => hval j t v (by simpa using h1) (by simpa using h2)) hA
  have hdl : ds.length = fn.params.toList.length := by
    have aux : ∀ (ts : List TypeId) (vs : List Value) (ds : List (DataW H)) (ps : List MemPlace), DataW.TrodAll enc P W 0 (fun _ => true) true ts vs ds ps → ds.length = ts.length := by
      intro ts
      induction ts with
      | nil => intro vs ds ps h; cases vs <;> cases ds <;> first | (exact absurd h id) | rfl
      | cons t ts ih =>
        intro vs ds ps h
        cases vs with
        | nil => cases ds <;> exact absurd h id
        | cons v vs => cases ds with
          | nil => exact absurd h id
          | cons d ds => obtain ⟨_, q, _, h2, _⟩ := h; simp [ih _ _ _ h2]
    exact aux _ _ _ _ hA
  obtain ⟨s1, s2, s3⟩ := hs ds hdl
  have ht := Tys.tops_len tys fn.params.toList x hok
  refine ((hc x hx).run (allF W) W args (fun b h => h) (by rw [ht, ← hlen]; simp) (hd _ 0 (fun i => by simp))).mono fun e W' ⟨v, r, F', he, hr', hb, _, _, hv'⟩ => ?_
  subst he hr'
  simp only [Vw.DR] at hv'
  subst hv'
  refine ⟨_, rfl, post_below (pa := p) (pv := []) hW' ?_ ?_ ?_ rfl hb ?_⟩
  · intro b sp hd'
    simp only [List.append_nil, s1, hr]
    exact trodAll_cons_mk (shut_bool hrt _) trodAll_mk0
  · intro sp hsp
    simp only [List.append_nil, s2]
    exact trodAll_stays hl hp hA (fun y hy => hb.same (hlt y (by simp [hy]))) (fun y hy => hsp y (by simp [hy]))
  · intro sp hsp
    simp only [List.append_nil, s3, hv]
    rfl
  · exact ok_one hr rfl (okWide_bool_mk hrt _)
end Go.Vw

/-
  Natural numbers as lists of limbs of 32 bits: plain arithmetic. Conditions: as each says.
-/
namespace Go.Vw

abbrev B : Nat := 4294967296

def val : List Nat → Nat
  | [] => 0
  | x :: l => x + B * val l

def WF (l : List Nat) : Prop := ∀ x ∈ l, x < B

def limbs (n : Nat) : List Nat := if h : n = 0 then [] else n % B :: limbs (n / B)
termination_by n
decreasing_by exact Nat.div_lt_self (Nat.pos_of_ne_zero h) (by decide)

theorem limbs_zero : limbs 0 = [] := by unfold limbs; simp
theorem limbs_pos {n : Nat} (h : n ≠ 0) : limbs n = n % B :: limbs (n / B) := by
  rw [limbs]; simp [h]

theorem val_limbs (n : Nat) : val (limbs n) = n := by
  induction n using Nat.strongRecOn with
  | _ n ih =>
    by_cases h : n = 0
    · subst h; rw [limbs_zero]; rfl
    · rw [limbs_pos h, val, ih _ (Nat.div_lt_self (Nat.pos_of_ne_zero h) (by decide))]
      exact Nat.mod_add_div n B

theorem wf_limbs (n : Nat) : WF (limbs n) := by
  induction n using Nat.strongRecOn with
  | _ n ih =>
    by_cases h : n = 0
    · subst h; rw [limbs_zero]; intro x hx; cases hx
    · rw [limbs_pos h]
      intro x hx
      rcases List.mem_cons.1 hx with rfl | hx
      · exact Nat.mod_lt _ (by decide)
      · exact ih _ (Nat.div_lt_self (Nat.pos_of_ne_zero h) (by decide)) x hx

theorem WF.tail {x : Nat} {l : List Nat} (h : WF (x :: l)) : WF l := fun y hy => h y (by simp [hy])
theorem WF.head {x : Nat} {l : List Nat} (h : WF (x :: l)) : x < B := h x (by simp)
theorem WF.nil : WF [] := fun x hx => by cases hx
theorem WF.append {a b : List Nat} (ha : WF a) (hb : WF b) : WF (a ++ b) := fun x hx => by
  rcases List.mem_append.1 hx with h | h
  · exact ha x h
  · exact hb x h
theorem WF.take {a : List Nat} (ha : WF a) (n : Nat) : WF (a.take n) := fun x hx => ha x (List.mem_of_mem_take hx)
theorem WF.drop {a : List Nat} (ha : WF a) (n : Nat) : WF (a.drop n) := fun x hx => ha x (List.mem_of_mem_drop hx)
theorem WF.getD {a : List Nat} (ha : WF a) (i : Nat) : a.getD i 0 < B := by
  by_cases h : i < a.length
  · simp only [List.getD, List.getElem?_eq_getElem h, Option.getD_some]; exact ha _ (List.getElem_mem h)
  · simp [List.getD, List.getElem?_eq_none (Nat.le_of_not_lt h)]

theorem val_append (a b : List Nat) : val (a ++ b) = val a + B ^ a.length * val b := by
  induction a with
  | nil => simp [val]
  | cons x a ih =>
    simp only [List.cons_append, val, ih, List.length_cons, Nat.pow_succ]
    rw [Nat.mul_add, Nat.mul_comm (B ^ a.length) B, Nat.mul_assoc, Nat.add_assoc]

theorem val_lt {l : List Nat} (h : WF l) : val l < B ^ l.length := by
  induction l with
  | nil => simp [val]
  | cons x l ih =>
    have h1 := ih h.tail
    have h2 := h.head
    simp only [val, List.length_cons, Nat.pow_succ]
    calc x + B * val l < B + B * val l := by omega
      _ = B * (val l + 1) := by rw [Nat.mul_add]; omega
      _ ≤ B * B ^ l.length := Nat.mul_le_mul_left _ h1
      _ = B ^ l.length * B := Nat.mul_comm _ _

def valid (l : List Nat) : Bool := l.isEmpty || l.getD (l.length - 1) 0 != 0

theorem length_limbs_le {n k : Nat} (h : n < B ^ k) : (limbs n).length ≤ k := by
  induction k generalizing n with
  | zero => have : n = 0 := by simpa using h
            subst this; simp [limbs_zero]
  | succ k ih =>
    by_cases h0 : n = 0
    · subst h0; simp [limbs_zero]
    · rw [limbs_pos h0]
      have := ih (n := n / B) (Nat.div_lt_of_lt_mul (by rw [Nat.pow_succ, Nat.mul_comm] at h; exact h))
      simpa using this
theorem lt_pow_length (n : Nat) : n < B ^ (limbs n).length := by
  have := val_lt (wf_limbs n)
  rwa [val_limbs] at this
end Go.Vw

/-
  Lists of limbs, more: digit by digit. Conditions: none.
-/
namespace Go.Vw

theorem WF.set {l : List Nat} (h : WF l) (i : Nat) {x : Nat} (hx : x < B) : WF (l.set i x) := fun y hy => by
  rcases List.mem_or_eq_of_mem_set hy with h1 | h1
  · exact h y h1
  · omega
theorem B_val : B = 4294967296 := rfl

theorem limbs_len_mono {m n : Nat} (h : m ≤ n) : (limbs m).length ≤ (limbs n).length := length_limbs_le (Nat.lt_of_le_of_lt h (lt_pow_length n))
end Go.Vw

/-
  Lists of limbs: lengths of results, digits and bits. Conditions: none.
-/
namespace Go.Vw

abbrev ln (n : Nat) : Nat := (limbs n).length
theorem lt_ln (n : Nat) : n < B ^ ln n := lt_pow_length n
theorem ln_le {n k : Nat} (h : n < B ^ k) : ln n ≤ k := length_limbs_le h
theorem ln_mono {m n : Nat} (h : m ≤ n) : ln m ≤ ln n := limbs_len_mono h
theorem ln_add1 {m n k : Nat} (h1 : ln m ≤ k) (h2 : ln n ≤ k) : ln (m + n) ≤ k + 1 := by
  refine ln_le ?_
  have h1' := Nat.lt_of_lt_of_le (lt_ln m) (Nat.pow_le_pow_right (show 0 < B by decide) h1)
  have h2' := Nat.lt_of_lt_of_le (lt_ln n) (Nat.pow_le_pow_right (show 0 < B by decide) h2)
  rw [Nat.pow_succ]
  have : B ^ k * 2 ≤ B ^ k * B := Nat.mul_le_mul_left _ (by decide)
  omega
theorem ln_mul (m n : Nat) : ln (m * n) ≤ ln m + ln n := by
  refine ln_le ?_
  rw [Nat.pow_add]
  by_cases h : n = 0
  · subst h; exact Nat.mul_pos (Nat.pow_pos (by decide)) (Nat.pow_pos (by decide))
  · exact Nat.mul_lt_mul_of_lt_of_le (lt_ln m) (Nat.le_of_lt (lt_ln n)) (Nat.pow_pos (by decide))
end Go.Vw

/-
  Integers and rational numbers as the program holds them. Conditions: none.
-/
namespace Go.Vw

def validI (neg : Bool) (mag : List Nat) : Bool := valid mag && !(neg && decide (mag.length = 0))
def iv' (neg : Bool) (mag : List Nat) : Int := if validI neg mag then (if neg then -(val mag : Int) else val mag) else 0

theorem iv'_abs (neg : Bool) (mag : List Nat) : (iv' neg mag).natAbs = if validI neg mag then val mag else 0 := by
  unfold iv'; split
  · cases neg <;> simp
  · rfl
theorem iv'_len {neg : Bool} {mag : List Nat} (h : WF mag) : (limbs (iv' neg mag).natAbs).length ≤ mag.length := by
  rw [iv'_abs]; split
  · exact length_limbs_le (val_lt h)
  · rw [limbs_zero]; simp
structure IntOk (neg : Bool) (mag : List Nat) (k : Nat) : Prop where
  wf : WF mag
  len : mag.length < k
theorem IntOk.z {z : Int} {k : Nat} (h : (limbs z.natAbs).length < k) : IntOk (decide (z < 0)) (limbs z.natAbs) k := ⟨wf_limbs _, h⟩
theorem IntOk.val {neg : Bool} {mag : List Nat} {k : Nat} (h : IntOk neg mag k) : (limbs (iv' neg mag).natAbs).length < k := Nat.lt_of_le_of_lt (iv'_len h.wf) h.len
end Go.Vw

/-
  Rational numbers as the program holds them; rows, tables, strings. Conditions: none.
-/
namespace Go.Vw

abbrev R3 := Bool × List Nat × List Nat
@[reducible] def rC (r : R3) : List D := [.bool r.1, u32s r.2.1, u32s r.2.2]
@[reducible] def rD (r : R3) : D := .agg (rC r)
@[reducible] def r0 : R3 := (false, [], [])
@[reducible] def rsD (l : List R3) : D := .sl 3 rC r0 l
@[reducible] def eR (l : List R3) : List D := [rsD l]
@[reducible] def rssD (l : List (List R3)) : D := .sl 1 eR [] l
@[reducible] def eS (b : List UInt8) : List D := [.str b]
@[reducible] def strsD (l : List (List UInt8)) : D := .sl 1 eS [] l

end Go.Vw

/-
  Rational numbers: what the fields stand for, and the fields of a number. Conditions: as each says.
-/
namespace Go.Vw

def dL (d : Nat) : List Nat := if d = 1 then [] else limbs d
def rq (q : Rat) : R3 := (decide (q.num < 0), limbs q.num.natAbs, dL q.den)
structure RatOk (r : R3) (k : Nat) : Prop where
  wm : WF r.2.1
  wd : WF r.2.2
  lm : r.2.1.length < k
  ld : r.2.2.length < k
def okQ (k : Nat) (q : Rat) : Prop := (limbs q.num.natAbs).length < k ∧ (limbs q.den).length < k
theorem okQ.mono {k l : Nat} {q : Rat} (h : okQ k q) (hl : k ≤ l) : okQ l q := ⟨Nat.lt_of_lt_of_le h.1 hl, Nat.lt_of_lt_of_le h.2 hl⟩
end Go.Vw

/-
  Rational numbers: comparison, whole numbers, bounds. Conditions: as each says.
-/
namespace Go.Vw
theorem RatOk.up {r : R3} {k l : Nat} (h : RatOk r k) (hl : k ≤ l) : RatOk r l := ⟨h.wm, h.wd, Nat.lt_of_lt_of_le h.lm hl, Nat.lt_of_lt_of_le h.ld hl⟩
end Go.Vw

/-
  Rational numbers: sizes of results, order, whole parts. Conditions: as each says.
-/
namespace Go.Vw
theorem divInt_le (a b : Int) (hb : b ≠ 0) : (Rat.divInt a b).num.natAbs ≤ a.natAbs ∧ (Rat.divInt a b).den ≤ b.natAbs := by
  rw [Rat.num_divInt, Rat.den_divInt, if_neg hb]
  refine ⟨?_, Nat.div_le_self _ _⟩
  have hg : 0 < Int.gcd b a := Int.gcd_pos_of_ne_zero_left _ hb
  have hd : ((Int.gcd b a : Nat) : Int) ∣ b.sign * a := Int.dvd_trans (Int.gcd_dvd_right b a) (Int.dvd_mul_left _ _)
  rw [Int.natAbs_ediv_of_dvd hd, Int.natAbs_mul]
  have h1 : b.sign.natAbs = 1 := by rw [Int.natAbs_sign, if_neg hb]
  rw [h1, Nat.one_mul]
  exact Nat.div_le_self _ _
theorem okQ_divInt {a b : Int} {k : Nat} (hb : b ≠ 0) (ha : (limbs a.natAbs).length < k) (hb2 : (limbs b.natAbs).length < k) : okQ k (Rat.divInt a b) :=
  ⟨Nat.lt_of_le_of_lt (limbs_len_mono (divInt_le a b hb).1) ha, Nat.lt_of_le_of_lt (limbs_len_mono (divInt_le a b hb).2) hb2⟩
theorem add_divInt (x y : Rat) : x + y = Rat.divInt (x.num * y.den + y.num * x.den) ((x.den * y.den : Nat) : Int) := by rw [Rat.add_def', ← Rat.divInt_ofNat]
theorem mul_divInt (x y : Rat) : x * y = Rat.divInt (x.num * y.num) ((x.den * y.den : Nat) : Int) := by rw [Rat.mul_def', ← Rat.divInt_ofNat]
theorem okQ.add {x y : Rat} {k l : Nat} (hx : okQ k x) (hy : okQ l y) : okQ (k + l) (x + y) := by
  rw [add_divInt]
  have l1 := ln_mul x.num.natAbs y.den
  have l2 := ln_mul y.num.natAbs x.den
  have l3 := ln_mul x.den y.den
  have e1 : (x.num * (y.den : Int)).natAbs = x.num.natAbs * y.den := by rw [Int.natAbs_mul, Int.natAbs_natCast]
  have e2 : (y.num * (x.den : Int)).natAbs = y.num.natAbs * x.den := by rw [Int.natAbs_mul, Int.natAbs_natCast]
  have l4 := ln_mono (Int.natAbs_add_le (x.num * y.den) (y.num * x.den))
  obtain ⟨x1, x2⟩ := hx
  obtain ⟨y1, y2⟩ := hy
  simp only [ln] at l1 l2 l3 l4
  have l5 := ln_add1 (m := (x.num * (y.den : Int)).natAbs) (n := (y.num * (x.den : Int)).natAbs) (k := k + l - 2) (by simp only [ln]; rw [e1]; omega) (by simp only [ln]; rw [e2]; omega)
  simp only [ln] at l5
  refine okQ_divInt (by have := Nat.mul_ne_zero x.den_nz y.den_nz; omega) (by omega) (by rw [Int.natAbs_natCast]; omega)
theorem okQ.mul {x y : Rat} {k l : Nat} (hx : okQ k x) (hy : okQ l y) : okQ (k + l) (x * y) := by
  rw [mul_divInt]
  have l1 := ln_mul x.num.natAbs y.num.natAbs
  have l3 := ln_mul x.den y.den
  have e1 : (x.num * y.num).natAbs = x.num.natAbs * y.num.natAbs := Int.natAbs_mul _ _
  obtain ⟨x1, x2⟩ := hx
  obtain ⟨y1, y2⟩ := hy
  simp only [ln] at l1 l3
  refine okQ_divInt (by have := Nat.mul_ne_zero x.den_nz y.den_nz; omega) (by rw [e1]; omega) (by rw [Int.natAbs_natCast]; omega)
theorem okQ.neg {x : Rat} {k : Nat} (hx : okQ k x) : okQ k (-x) := ⟨by rw [Rat.neg_num, Int.natAbs_neg]; exact hx.1, by rw [Rat.neg_den]; exact hx.2⟩
theorem okQ.sub {x y : Rat} {k l : Nat} (hx : okQ k x) (hy : okQ l y) : okQ (k + l) (x - y) := by rw [Rat.sub_eq_add_neg]; exact hx.add hy.neg
end Go.Vw

/-
  Matrices of rational numbers: the elimination as the specification has it, where each pivot stands in its place. Conditions: as each says.
-/
namespace Go.Vw
@[reducible] def qC (q : Rat) : List D := rC (rq q)
@[reducible] def qD (q : Rat) : D := rD (rq q)
@[reducible] def qsD (l : List Rat) : D := .sl 3 qC 0 l
@[reducible] def eQ (l : List Rat) : List D := [qsD l]
@[reducible] def qssD (l : List (List Rat)) : D := .sl 1 eQ [] l

def timesQ (l : List Rat) (c : Rat) : List Rat := l.map (· * c)
def plusQ (a b : List Rat) : List Rat := List.zipWith (· + ·) a b
def at2 (m : List (List Rat)) (i j : Nat) : Rat := (m.getD i []).getD j 0
def scaleQ (m : List (List Rat)) (j : Nat) : List (List Rat) := m.set j (timesQ (m.getD j []) (1 / at2 m j j))
def elimRow (m : List (List Rat)) (j i : Nat) : List Rat := if i = j then m.getD j [] else plusQ (m.getD i []) (timesQ (m.getD j []) (-(at2 m i j)))
def elimI (m : List (List Rat)) (j i : Nat) : List (List Rat) := (List.range i).map (elimRow m j) ++ m.drop i
def redQ (m : List (List Rat)) (j : Nat) : List (List Rat) := elimI (scaleQ m j) j m.length

def smallQ (q : Rat) : Prop := q.num.natAbs < 18446744073709551616 ∧ q.den < 18446744073709551616
theorem limbs_len2 {n : Nat} (h : n < 18446744073709551616) : (limbs n).length < 1000 := Nat.lt_of_le_of_lt (length_limbs_le (n := n) (k := 2) (by rw [B_val]; exact h)) (by decide)
theorem limbs_len4 {n : Nat} (h : n < 18446744073709551616 * 18446744073709551616) : (limbs n).length < 1000 := Nat.lt_of_le_of_lt (length_limbs_le (n := n) (k := 4) (by rw [B_val]; exact h)) (by decide)
theorem smallQ.ok {q : Rat} (h : smallQ q) : okQ 10000000 q := ⟨Nat.lt_trans (limbs_len2 h.1) (by decide), Nat.lt_trans (limbs_len2 h.2) (by decide)⟩
theorem smallQ.neg {q : Rat} (h : smallQ q) : smallQ (-q) := by unfold smallQ at *; rw [show (-q).num = -q.num from rfl, show (-q).den = q.den from rfl, Int.natAbs_neg]; exact h
theorem smallQ.one : smallQ 1 := by unfold smallQ; decide
theorem num_mul_le (x y : Rat) : (x * y).num.natAbs ≤ x.num.natAbs * y.num.natAbs ∧ (x * y).den ≤ x.den * y.den := by
  rw [Rat.num_mul, Rat.den_mul, ← Int.natAbs_mul]
  refine ⟨?_, Nat.div_le_self _ _⟩
  have hd : ((((x.num * y.num).natAbs.gcd (x.den * y.den) : Nat)) : Int) ∣ x.num * y.num := Int.ofNat_dvd_left.2 (Nat.gcd_dvd_left _ _)
  rw [Int.natAbs_ediv_of_dvd hd]
  exact Nat.div_le_self _ _
theorem smallQ.mul {x y : Rat} (hx : smallQ x) (hy : smallQ y) : okQ 10000000 (x * y) := by
  obtain ⟨h1, h2⟩ := num_mul_le x y
  exact ⟨Nat.lt_trans (limbs_len4 (Nat.lt_of_le_of_lt h1 (Nat.mul_lt_mul'' hx.1 hy.1))) (by decide), Nat.lt_trans (limbs_len4 (Nat.lt_of_le_of_lt h2 (Nat.mul_lt_mul'' hx.2 hy.2))) (by decide)⟩
structure GoodM (n : Nat) (m : List (List Rat)) : Prop where
  len : m.length = n
  row : ∀ i, i < n → (m.getD i []).length = n
  small : ∀ i, i < n → ∀ q ∈ m.getD i [], smallQ q
theorem GoodM.at2 {n : Nat} {m : List (List Rat)} (h : GoodM n m) {i j : Nat} (hi : i < n) (hj : j < n) : smallQ (at2 m i j) := by
  refine h.small i hi _ ?_
  unfold Vw.at2
  have hr := h.row i hi
  generalize m.getD i [] = r at *
  rw [List.getD_eq_getElem?_getD, List.getElem?_eq_getElem (by omega)]; exact List.getElem_mem _
def mAt (m : List (List Rat)) : Nat → List (List Rat)
  | 0 => m
  | j + 1 => redQ (mAt m j) j
def facAt (m : List (List Rat)) : Nat → Rat
  | 0 => 1
  | j + 1 => facAt m j * at2 (mAt m j) j j
structure RunOk (n : Nat) (m : List (List Rat)) : Prop where
  good : ∀ j, j ≤ n → GoodM n (mAt m j)
  piv : ∀ j, j < n → at2 (mAt m j) j j ≠ 0
  fac : ∀ j, j < n → smallQ (facAt m j)
  scaled : ∀ j, j < n → GoodM n (scaleQ (mAt m j) j)
end Go.Vw

/-
  Laws of machine words: borrow, halves, powers. Conditions: as each says.
-/
namespace Go.Vw

/-! ## Long division -/

section
variable {b t u0 v1 v0 q r : Nat} (hb : 1 < b) (hv : 0 < v1) (he : q * v1 + r = t)
include hb hv he
end
end Go.Vw

/-
  Sums, differences and products of lists of limbs, limb by limb into a row that lies ready. Conditions: as each says.
-/
namespace Go.Vw
theorem val_drop (l : List Nat) (i : Nat) (h : i < l.length) : val (l.drop i) = l.getD i 0 + B * val (l.drop (i + 1)) := by
  rw [List.drop_eq_getElem_cons h, val]
  rw [List.getD_eq_getElem?_getD, List.getElem?_eq_getElem h]; rfl
end Go.Vw

/-
  Lists of limbs of a fixed length; shifts; the steps of a long division. Conditions: as each says.
-/
namespace Go.Vw
def padL : Nat → Nat → List Nat
  | 0, _ => []
  | n + 1, v => v % B :: padL n (v / B)
theorem padL_len : ∀ n v, (padL n v).length = n
  | 0, v => rfl
  | n + 1, v => by simp [padL, padL_len n]
theorem padL_wf : ∀ n v, WF (padL n v)
  | 0, v => WF.nil
  | n + 1, v => fun x hx => by
    simp only [padL, List.mem_cons] at hx
    rcases hx with rfl | hx
    · exact Nat.mod_lt _ (by decide)
    · exact padL_wf n _ x hx
theorem padL_val : ∀ n v, val (padL n v) = v % B ^ n
  | 0, v => by simp [padL, val, Nat.mod_one]
  | n + 1, v => by
    rw [padL, val, padL_val n, Nat.pow_succ, Nat.mul_comm (B ^ n), Nat.mod_mul]
end Go.Vw

/-
  A part of a row of limbs rewritten limb by limb: a multiple taken away, a number put back. Conditions: as each says.
-/
namespace Go.Vw
def mid (U : List Nat) (j : Nat) (w : List Nat) : List Nat := U.take j ++ w ++ U.drop (j + w.length)
theorem mid_wf {U w : List Nat} {j : Nat} (hU : WF U) (hw : WF w) : WF (mid U j w) := WF.append (WF.append (hU.take j) hw) (hU.drop _)
end Go.Vw

/-
  Long division of lists of limbs: one digit, and the end. Conditions: as each says.
-/
namespace Go.Vw
theorem mid_drop {U w : List Nat} {j : Nat} (h : j ≤ U.length) : (mid U j w).drop j = w ++ U.drop (j + w.length) := by
  unfold mid
  rw [List.append_assoc, List.drop_append_of_le_length (by simp; omega), List.drop_eq_nil_of_le (by simp; omega), List.nil_append]
theorem val_mid {U w : List Nat} {j : Nat} (h : j + w.length ≤ U.length) : val (mid U j w) + B ^ j * val ((U.drop j).take w.length) = val U + B ^ j * val w := by
  have h1 : val U = val (U.take j) + B ^ j * val (U.drop j) := by
    conv => lhs; rw [← List.take_append_drop j U, val_append]
    rw [List.length_take, Nat.min_eq_left (by omega)]
  have h2 : val (U.drop j) = val ((U.drop j).take w.length) + B ^ w.length * val (U.drop (j + w.length)) := by
    conv => lhs; rw [← List.take_append_drop w.length (U.drop j), val_append]
    rw [List.length_take, List.drop_drop, Nat.min_eq_left (by simp; omega)]
  unfold mid
  rw [List.append_assoc, val_append, val_append, List.length_take, Nat.min_eq_left (by omega), h1, h2, Nat.mul_add, Nat.mul_add]
  omega
theorem win_all {U : List Nat} {j n V : Nat} (hU : WF U) (hj : j + n + 1 ≤ U.length) (hV : V < B ^ n) (hlt : val (U.drop (j + 1)) < V) : val ((U.drop j).take (n + 1)) = val (U.drop j) ∧ val (U.drop (j + n + 1)) = 0 ∧ val (U.drop j) < V * B := by
  have h1 : val (U.drop (j + 1)) = val ((U.drop (j + 1)).take n) + B ^ n * val (U.drop (j + n + 1)) := by
    conv => lhs; rw [← List.take_append_drop n (U.drop (j + 1)), val_append]
    rw [List.length_take, List.drop_drop, Nat.min_eq_left (by simp; omega), show j + 1 + n = j + n + 1 by omega]
  have h0 : val (U.drop (j + n + 1)) = 0 := by
    rcases Nat.eq_zero_or_pos (val (U.drop (j + n + 1))) with h | h
    · exact h
    · have := Nat.mul_le_mul_left (B ^ n) h
      omega
  have h2 : val (U.drop j) = val ((U.drop j).take (n + 1)) + B ^ (n + 1) * val (U.drop (j + n + 1)) := by
    conv => lhs; rw [← List.take_append_drop (n + 1) (U.drop j), val_append]
    rw [List.length_take, List.drop_drop, Nat.min_eq_left (by simp; omega), show j + (n + 1) = j + n + 1 by omega]
  rw [h0, Nat.mul_zero, Nat.add_zero] at h2
  refine ⟨h2.symm, h0, ?_⟩
  rw [val_drop U j (by omega)]
  have h3 := hU.getD j
  have h4 := Nat.mul_le_mul_left B (show val (U.drop (j + 1)) + 1 ≤ V from hlt)
  rw [Nat.mul_comm V B]
  rw [Nat.mul_add] at h4
  omega
structure DivInv (A V : Nat) (n : Nat) (U Q : List Nat) (j : Nat) : Prop where
  wU : WF U
  wQ : WF Q
  eq : A = val (Q.drop j) * (B ^ j * V) + val U
  lt : val (U.drop j) < V
theorem DivInv.step {A V n j : Nat} {U Q : List Nat} (h : DivInv A V n U Q (j + 1)) (hV : V < B ^ n) (hV0 : 0 < V) (hj : j + n + 1 ≤ U.length) (hQ : j < Q.length) : val ((U.drop j).take (n + 1)) < V * B ∧ val ((U.drop j).take (n + 1)) / V < B ∧ DivInv A V n (mid U j (padL (n + 1) (val ((U.drop j).take (n + 1)) % V))) (Q.set j (val ((U.drop j).take (n + 1)) / V)) j := by
  obtain ⟨w1, w2, w3⟩ := win_all h.wU hj hV h.lt
  rw [w1]
  have hq : val (U.drop j) / V < B := by rw [Nat.div_lt_iff_lt_mul hV0, Nat.mul_comm]; exact w3
  refine ⟨w3, hq, mid_wf h.wU (padL_wf _ _), h.wQ.set _ hq, ?_, ?_⟩
  · have hm := val_mid (U := U) (j := j) (w := padL (n + 1) (val (U.drop j) % V)) (by rw [padL_len]; omega)
    have hr : val (U.drop j) % V < B ^ (n + 1) := by
      have := Nat.mod_lt (val (U.drop j)) hV0
      have h2 : B ^ n ≤ B ^ (n + 1) := Nat.pow_le_pow_right (by decide) (by omega)
      exact Nat.lt_of_lt_of_le (Nat.lt_trans this hV) h2
    rw [padL_len, padL_val, Nat.mod_eq_of_lt hr, w1] at hm
    have hd := val_drop (Q.set j (val (U.drop j) / V)) j (by simpa using hQ)
    rw [show (Q.set j (val (U.drop j) / V)).drop (j + 1) = Q.drop (j + 1) from List.drop_set_of_lt (by omega)] at hd
    have hg : (Q.set j (val (U.drop j) / V)).getD j 0 = val (U.drop j) / V := by simp [List.getD_eq_getElem?_getD, hQ]
    rw [hg] at hd
    rw [hd, Nat.add_mul, h.eq]
    have hdm := Nat.div_add_mod (val (U.drop j)) V
    generalize val (U.drop j) / V = q at *
    generalize val (U.drop j) % V = r at *
    generalize val (U.drop j) = W at *
    have e1 : B * val (Q.drop (j + 1)) * (B ^ j * V) = val (Q.drop (j + 1)) * (B ^ (j + 1) * V) := by rw [Nat.pow_succ]; ac_rfl
    have e2 : q * (B ^ j * V) = B ^ j * (V * q) := by ac_rfl
    rw [e1, e2]
    rw [← hdm, Nat.mul_add] at hm
    omega
  · rw [mid_drop (by omega), val_append, padL_len, padL_val, show j + (n + 1) = j + n + 1 by omega, w2, Nat.mul_zero, Nat.add_zero]
    exact Nat.lt_of_le_of_lt (Nat.mod_le _ _) (Nat.mod_lt _ hV0)
theorem DivInv.done {a b s n : Nat} {U Q : List Nat} (hb : 0 < b) (h : DivInv (a * 2 ^ s) (b * 2 ^ s) n U Q 0) : val Q = a / b ∧ val U / 2 ^ s = a % b := by
  have hp : 0 < 2 ^ s := Nat.pow_pos (by decide)
  have h1 := h.eq
  have h2 := h.lt
  rw [List.drop_zero, Nat.pow_zero, Nat.one_mul] at h1
  rw [List.drop_zero] at h2
  have h3 : a * 2 ^ s / (b * 2 ^ s) = a / b := Nat.mul_div_mul_right _ _ hp
  have h4 : a * 2 ^ s % (b * 2 ^ s) = a % b * 2 ^ s := Nat.mul_mod_mul_right _ _ _
  have h5 : val Q = a * 2 ^ s / (b * 2 ^ s) := by
    rw [h1, Nat.add_comm, Nat.mul_comm (val Q), Nat.add_mul_div_left _ _ (Nat.mul_pos hb hp), Nat.div_eq_of_lt h2, Nat.zero_add]
  have h6 : val U = a * 2 ^ s % (b * 2 ^ s) := by
    rw [h1, Nat.add_comm, Nat.mul_comm (val Q), Nat.add_mul_mod_self_left, Nat.mod_eq_of_lt h2]
  exact ⟨h5.trans h3, by rw [h6, h4, Nat.mul_div_cancel _ hp]⟩
end Go.Vw

/-
  Long division of lists of limbs: the estimate of one digit in terms of the limbs. Conditions: as each says.
-/
namespace Go.Vw
structure Hid (p : Prop) : Prop where
  out : p
end Go.Vw

/-
  Square roots of whole numbers by Newton's iteration; powers of 2 as lists of limbs. Conditions: as each says.
-/
namespace Go.Vw
def rtGo : Nat → Nat → Nat
  | 0, _ => 0
  | k + 1, a => if (k + 1) * (k + 1) ≤ a then k + 1 else rtGo k a
def rt (a : Nat) : Nat := rtGo a a
end Go.Vw

/-
  Intervals of rational numbers: what the operations are, in plain terms. Conditions: as each says.
-/
namespace Go.Vw
abbrev I2 := Rat × Rat
@[reducible] def iD (a b : R3) : D := .agg [.bool a.1, u32s a.2.1, u32s a.2.2, .bool b.1, u32s b.2.1, u32s b.2.2]
@[reducible] def iQ (i : I2) : D := iD (rq i.1) (rq i.2)
def takeI (x y : Rat) : I2 := if y < x then (0, 0) else (x, y)
end Go.Vw

/-
  A law's rational numbers and intervals as they come in. Conditions: as each says.
-/
namespace Go.Vw
structure RawR (r : R3) : Prop where
  wm : WF r.2.1
  wd : WF r.2.2
  lm : r.2.1.length ≤ 9223372036854775807
  ld : r.2.2.length ≤ 9223372036854775807
theorem u8_wf {z : Int} (h : (Lit.int .u8 z).wf = true) : 0 ≤ z ∧ z < 256 := by
  simp [Lit.wf, IntKind.min, IntKind.max, IntKind.signed, IntKind.bits] at h
  omega
end Go.Vw

/-
  Formulas as they come in. Conditions: none.
-/
namespace Go.Vw
abbrev tNode : Ty := .struct (.cons (.int .i64) (.cons .str (.cons (.int .i64) .nil)))
abbrev tFm : Ty := .struct (.cons .str (.cons (.slice tNode) .nil))
abbrev vNode : Type := Int × List UInt8 × Int × Unit
abbrev vFm : Type := List UInt8 × List vNode × Unit
def toNd (x : vNode) : Nd := (x.1, x.2.1, x.2.2.1)
def toNds (l : List vNode) : List Nd := l.map toNd
abbrev fmD (s : List UInt8) (e : List Nd) : D := .agg [.str s, ndsD e]
theorem leNds (l : List vNode) : LeD (.sl 3 (Ty.cells tNode) (Ty.zero tNode) l) (ndsD (toNds l)) := by
  refine LeD.sl (List.length_map ..).symm fun i (a : vNode) b (ha : (l[i]? : Option vNode) = some a) hb => ⟨rfl, ?_⟩
  unfold toNds at hb
  rw [List.getElem?_map, ha] at hb
  have e : toNd a = b := Option.some.inj hb
  subst e
  exact LeL.cons (LeD.refl _) (LeL.cons (LeD.refl _) (LeL.cons (LeD.refl _) LeL.nil))
theorem leFm (x : vFm) : LeD (Ty.top tFm x) (fmD x.1 (toNds x.2.1)) :=
  LeD.agg (LeL.cons (LeD.refl _) (LeL.cons (leNds _) LeL.nil))
theorem toNds_len (l : List vNode) : (toNds l).length = l.length := List.length_map ..
theorem fm_wf {x : vFm} (h : Ty.wf tFm x) : x.1.length ≤ maxLen ∧ (toNds x.2.1).length ≤ maxLen := ⟨h.1, by rw [toNds_len]; exact h.2.1.1⟩
def lightF (s : List UInt8) (e : List Nd) : Bool := decide (s.length ≤ 60) && (decide (e.length ≤ 80) && e.all fun n => decide (n.2.1.length ≤ 60))
theorem lightF_len {s : List UInt8} {e : List Nd} (h : lightF s e = true) : e.length ≤ 80 := by
  unfold lightF at h
  simp only [Bool.and_eq_true, decide_eq_true_eq] at h
  exact h.2.1
theorem vld_of {s : List UInt8} {e : List Nd} (h : vld s e = true) : isName s = true ∧ Built e ∧ e.length ≤ 64 := by
  unfold vld at h
  simp only [Bool.and_eq_true, decide_eq_true_eq] at h
  exact ⟨h.1, cnt_built.1 h.2.1, h.2.2⟩
theorem vld_mk {s : List UInt8} {e : List Nd} (h1 : isName s = true) (h2 : Built e) : vld s e = decide (e.length ≤ 64) := by
  unfold vld
  rw [h1, cnt_built.2 h2]; simp
end Go.Vw

/-
  Small functions of the law; the law on growing. Conditions: none.
-/
set_option maxHeartbeats 8000000
namespace Go.Proofs.YtfnonogemgnlhaaDoor
open Go.Vw
attribute [local irreducible] awp awpL awpR

theorem law09_light (s : List UInt8) (e : List Nd) (hs : s.length ≤ maxLen) (hl : e.length ≤ maxLen) : Ret Tryd.prog 14 [fmD s e] (· = .bool (lightF s e)) := by
  unfold lightF
  have mx : maxLen ≤ 9223372036854775807 := by decide
  by_cases h1 : s.length ≤ 60
  · by_cases h2 : e.length ≤ 80
    · simp only [h1, h2, decide_true, Bool.true_and]
      refine ret_of_awp tab Tryd.func14 rfl rfl (Nat.le_of_ble_eq_true rfl) (fun w0 F0 => ?_)
      repeat' (first | refine wG ?_ | refine wR ?_ | refine wS ?_ ?_ <;> intro _ | refine finG ?_)
      refine awp_loop1 (fun (i : Nat) => ([(1, .ptr 1 0), (3, .d (.int .i64 i))], [(1, .box fmT [.d (.str s), .d (ndsD e)])])) (fun i => i ≤ e.length ∧ ((e.drop i).all fun n => decide (n.2.1.length ≤ 60)) = e.all fun n => decide (n.2.1.length ≤ 60)) (fun i => e.length - i) 0 ⟨by omega, rfl⟩ ⟨rfl, rfl, rfl⟩ ⟨rfl, trivial⟩ (fun i hi => ?_)
      obtain ⟨hi, hc⟩ := hi
      rw [← hc]
      clear hc
      by_cases g : i < e.length
      · have hd : e.drop i = e[i]?.getD nd0 :: e.drop (i + 1) := by
          rw [List.drop_eq_getElem_cons g]; simp [g]
        rw [hd, List.all_cons]
        by_cases hb : (e[i]?.getD nd0).2.1.length ≤ 60
        · have hb2 : (e.getD i nd0).2.1.length ≤ 60 := hb
          simp only [hb, decide_true, Bool.true_and]
          repeat' (first | refine wG ?_ | refine wR ?_ | refine wS ?_ ?_ <;> intro _ | refine finG ?_)
          exact ⟨i + 1, ⟨by omega, rfl⟩, by omega, ⟨rfl, iv (by omega), rfl⟩, rfl, trivial⟩
        · have hb2 : ¬ (e.getD i nd0).2.1.length ≤ 60 := hb
          simp only [hb, decide_false, Bool.false_and]
          repeat' (first | refine wG ?_ | refine wR ?_ | refine wS ?_ ?_ <;> intro _ | refine finG ?_)
          all_goals rfl
      · rw [List.drop_eq_nil_of_le (by omega)]
        repeat' (first | refine wG ?_ | refine wR ?_ | refine wS ?_ ?_ <;> intro _ | refine finG ?_)
        all_goals rfl
    · simp only [h1, h2, decide_true, decide_false, Bool.true_and, Bool.false_and]
      refine ret_of_awp tab Tryd.func14 rfl rfl (Nat.le_of_ble_eq_true rfl) (fun w0 F0 => ?_)
      repeat' (first | refine wG ?_ | refine wR ?_ | refine wS ?_ ?_ <;> intro _ | refine finG ?_)
      all_goals rfl
  · simp only [h1, decide_false, Bool.false_and]
    refine ret_of_awp tab Tryd.func14 rfl rfl (Nat.le_of_ble_eq_true rfl) (fun w0 F0 => ?_)
    repeat' (first | refine wG ?_ | refine wR ?_ | refine wS ?_ ?_ <;> intro _ | refine finG ?_)
    all_goals rfl
end Go.Proofs.YtfnonogemgnlhaaDoor

/-
  Written formulas are read back, in brackets too. Conditions: none.
-/
namespace Go.Vw
theorem skp_bl {t r : List UInt8} {i : Nat} (h : t.drop i = 32 :: r) : skp t i = skp t (i + 1) := by
  have h2 := (getD_drop h).2.2
  unfold skp runE
  rw [h, h2]
  simp only [List.takeWhile, show isBl 32 = true by decide, List.length_cons]
  omega
def brN : Nat → List UInt8 → List UInt8
  | 0, s => s
  | n + 1, s => 40 :: 32 :: (brN n s ++ [32, 41, 32, 32])
theorem brN_len : ∀ (n : Nat) (s : List UInt8), (brN n s).length = s.length + 6 * n
  | 0, s => rfl
  | n + 1, s => by simp only [brN, List.length_cons, List.length_append, brN_len n s, List.length_nil]; omega
theorem nb_brN {T : Ft} (hT : T.ok) (n : Nat) (r : List UInt8) : Nb (brN n T.pr ++ r) := by
  cases n with
  | zero => exact nb_pr hT r
  | succ n => exact nb_cons (by decide)
theorem brN_reads {t : List UInt8} {T : Ft} (hT : T.ok) : ∀ (n : Nat) {i : Nat} {r : List UInt8}, t.drop i = brN n T.pr ++ r → Cl r → Flw t 0 (skp t (i + (brN n T.pr).length)) → Reads t 0 i T.flat (skp t (i + (brN n T.pr).length))
  | 0, i, r, h, hr, hf => pr_reads t T hT 0 (Nat.zero_le _) (Nat.zero_le _) h hr hf
  | n + 1, i, r, h, hr, hf => by
    have h : t.drop i = 40 :: 32 :: (brN n T.pr ++ (32 :: 41 :: 32 :: 32 :: r)) := by rw [h]; simp [brN]
    obtain ⟨w1, w2⟩ := word_sign h (by decide) (by decide)
    have t1 := (getD_drop h).2.2
    have t2 := (getD_drop t1).2.2
    have l2 := (getD_drop t1).2.1
    have t3 := drop_app t2
    have l3 := (getD_drop t3).2.1
    have t4 := (getD_drop t3).2.2
    have l4 := (getD_drop t4).2.1
    have t5 := (getD_drop t4).2.2
    have t6 := (getD_drop t5).2.2
    have n0 : nxt t i = i + 1 + 1 := by
      unfold nxt; rw [w2, skp_bl t1]
      exact skp_here t2 (nb_brN hT n _) (by omega)
    generalize hL : (brN n T.pr).length = L at *
    have e3 : skp t (i + 1 + 1 + L) = i + 1 + 1 + L + 1 := by
      rw [skp_bl t3]; exact skp_here t4 (nb_cons (by decide)) (by omega)
    obtain ⟨w3, w4⟩ := word_sign t4 (by decide) (by decide)
    have hf2 : Flw t 0 (skp t (i + 1 + 1 + L)) := by
      rw [e3]
      refine ⟨fun q a b => ?_, fun _ => by rw [w3]; decide⟩
      rw [w3]
      have : q = 1 ∨ q = 2 := by omega
      rcases this with e | e <;> subst e <;> rfl
    have R := brN_reads hT n t2 (cl_cons (by decide)) (by rw [hL]; exact hf2)
    rw [hL, e3] at R
    have R := R.done (by omega) (fun _ => by rw [w3]; rfl) (by rw [w3]; decide)
    have m := mustP_sign t4 (by decide) (by decide)
    rw [skp_bl t5, skp_bl t6] at m
    have P := Rs.brO w1 (by rw [n0]; exact R) m
    have e6 : i + (brN (n + 1) T.pr).length = i + 1 + 1 + L + 1 + 1 + 1 + 1 := by
      simp only [brN, List.length_cons, List.length_append, hL, List.length_nil]; omega
    rw [e6] at hf ⊢
    exact Reads.of P (by omega) hf
def FmOk (t nm : List UInt8) (e : List Nd) : Prop := ∃ i j k, nameP t (skp t 0) = .ok (nm, i) ∧ mustP t 126 i = .ok j ∧ Rs t (.lev 0) j (.ok (e, k)) ∧ word t k = []
theorem fmOk_end {t : List UInt8} {T : Ft} (hT : T.ok) (n : Nat) {i : Nat} (h : t.drop i = brN n T.pr) (hi : i ≤ t.length) : ∃ k, Rs t (.lev 0) i (.ok (T.flat, k)) ∧ word t k = [] := by
  have he : i + (brN n T.pr).length = t.length := by
    have := congrArg List.length h
    simp only [List.length_drop] at this
    omega
  have hs : skp t t.length = t.length := by
    have := skp_max t t.length
    have := skp_ge t t.length
    omega
  have hw : word t t.length = [] := (word_nil (Nat.le_refl _)).2 rfl
  have R := brN_reads hT n (r := []) (by rw [h, List.append_nil]) cl_nil (by
    rw [he, hs]
    exact ⟨fun q a b => by rw [hw]; exact opOf_nil _, fun _ => by rw [hw]; simp⟩)
  rw [he, hs] at R
  exact ⟨_, R.done (by omega) (fun _ => by rw [hw]; exact opOf_nil _) (by rw [hw]; simp), hw⟩
theorem fmOk_pr {nm : List UInt8} {T : Ft} (h : isName nm = true) (hT : T.ok) : FmOk (nm ++ [32, 126, 32] ++ T.pr) nm T.flat := by
  generalize ht : nm ++ [32, 126, 32] ++ T.pr = t
  have d0 : t.drop 0 = nm ++ (32 :: 126 :: 32 :: T.pr) := by rw [← ht]; simp
  have e0 : skp t 0 = 0 := skp_here d0 (nb_name h) (by omega)
  have n := nameP_name d0 h (cl_cons (by decide))
  have t1 := drop_app d0
  have t2 := (getD_drop t1).2.2
  have l2 := (getD_drop t2).2.1
  have t3 := (getD_drop t2).2.2
  have l3 := (getD_drop t3).2.1
  have t4 := (getD_drop t3).2.2
  have m := mustP_sign t2 (by decide) (by decide)
  rw [skp_bl t1, skp_here t2 (nb_cons (by decide)) (by omega)] at n
  have nb := nb_pr hT []
  rw [List.append_nil] at nb
  rw [skp_bl t3, skp_here t4 nb (by omega)] at m
  obtain ⟨k, R, w⟩ := fmOk_end hT 0 t4 (by omega)
  exact ⟨_, _, k, by rw [e0]; exact n, m, R, w⟩
theorem fmOk_br {nm : List UInt8} {T : Ft} (h : isName nm = true) (hT : T.ok) (n : Nat) : FmOk ([32, 32] ++ nm ++ [32, 32, 126] ++ brN n T.pr) nm T.flat := by
  generalize ht : [32, 32] ++ nm ++ [32, 32, 126] ++ brN n T.pr = t
  have a0 : t.drop 0 = 32 :: 32 :: (nm ++ (32 :: 32 :: 126 :: brN n T.pr)) := by rw [← ht]; simp
  have a1 := (getD_drop a0).2.2
  have d0 := (getD_drop a1).2.2
  have l0 := (getD_drop a1).2.1
  have e0 : skp t 0 = 0 + 1 + 1 := by rw [skp_bl a0, skp_bl a1]; exact skp_here d0 (nb_name h) (by omega)
  have nn := nameP_name d0 h (cl_cons (by decide))
  have t1 := drop_app d0
  have t2 := (getD_drop t1).2.2
  have t3 := (getD_drop t2).2.2
  have l3 := (getD_drop t3).2.1
  have t4 := (getD_drop t3).2.2
  have m := mustP_sign t3 (by decide) (by decide)
  rw [skp_bl t1, skp_bl t2, skp_here t3 (nb_cons (by decide)) (by omega)] at nn
  have nb := nb_brN hT n []
  rw [List.append_nil] at nb
  rw [skp_here t4 nb (by omega)] at m
  obtain ⟨k, R, w⟩ := fmOk_end hT n t4 (by omega)
  exact ⟨_, _, k, by rw [e0]; exact nn, m, R, w⟩
end Go.Vw

/-
  The laws on reading back and on stability. Conditions: none.
-/
set_option maxHeartbeats 8000000
namespace Go.Proofs.YtfnonogemgnlhaaDoor
open Go.Vw
attribute [local irreducible] awp awpL awpR

theorem fml_of {t : List UInt8} {o : Except PErr (List UInt8 × List Nd)} (h : Fm0 t o) : ∃ o', Fml t o' ∧ prsO o' = prsO o := by
  cases h with
  | name hn => exact ⟨_, .name hn, rfl⟩
  | tilde hn hm => exact ⟨_, .tilde hn hm, rfl⟩
  | right hn hm h =>
    obtain ⟨o', ho', sm⟩ := h.sim (.lev 0) rfl
    cases o' with
    | error y =>
      obtain rfl := (show y = _ from sm)
      exact ⟨_, .right hn hm ho', rfl⟩
    | ok q => exact sm.elim
  | rest hn hm h hw =>
    obtain ⟨o', ho', sm⟩ := h.sim (.lev 0) rfl
    cases o' with
    | error y => exact sm.elim
    | ok q =>
      obtain ⟨e', k'⟩ := q
      obtain ⟨rfl, sl⟩ := (show k' = _ ∧ SimL _ e' from sm)
      exact ⟨_, .rest hn hm ho' hw, rfl⟩
  | done hn hm h hw =>
    obtain ⟨o', ho', sm⟩ := h.sim (.lev 0) rfl
    cases o' with
    | error y => exact sm.elim
    | ok q =>
      obtain ⟨e', k'⟩ := q
      obtain ⟨rfl, sl⟩ := (show k' = _ ∧ SimL _ e' from sm)
      refine ⟨_, .done hn hm ho' hw, ?_⟩
      rcases sl with rfl | ⟨s1, s2⟩
      · rfl
      · unfold prsO
        simp only
        rw [if_pos s1, if_pos (by omega)]
theorem parse_of {t : List UInt8} {o : Except PErr (List UInt8 × List Nd)} (h : Fm0 t o) (ht : t.length ≤ 65536) : Ret Tryd.prog 11 [.str t] (· = prsD (prsO o)) := by
  obtain ⟨o', h1, he⟩ := fml_of h
  have := formula_Parse t ht o' h1
  rw [he] at this; exact this
theorem ref_of {t : List UInt8} {o : Except PErr (List UInt8 × List Nd)} (h : Fm0 t o) (ht : t.length ≤ 65536) : Ret Tryd.prog 12 [.str t] (· = prsD (prsO o)) := by
  cases o with
  | error x => exact ref09_ParseE t ht x h
  | ok p => exact ref09_ParseO t ht p.1 p.2 h
theorem fmOk_fm0 {t nm : List UInt8} {e : List Nd} (h : FmOk t nm e) : Fm0 t (.ok (nm, e)) := by
  obtain ⟨i, j, k, h1, h2, h3, h4⟩ := h
  exact .done h1 h2 h3 h4
theorem parse_ok {t nm : List UInt8} {e : List Nd} (h : FmOk t nm e) (hl : e.length ≤ 64) (ht : t.length ≤ 65536) : Ret Tryd.prog 11 [.str t] (· = .tup [fmD nm e, .int .i64 0, .int .i64 0]) := by
  have := parse_of (fmOk_fm0 h) ht
  unfold prsO at this
  simp only at this
  rw [if_neg (by omega)] at this
  exact this
theorem Fm0.err {t : List UInt8} {x : PErr} (h : Fm0 t (.error x)) : ErrIn t 0 x := by
  have h0 : At t (skp t 0) := ⟨runE_le _ (Nat.zero_le _), runE_idem (Nat.zero_le _)⟩
  cases h with
  | name h => rw [(nameP_er h).1]; exact (h0.err (.inl rfl)).mono (Nat.zero_le _)
  | tilde h h1 => rw [(mustP_er h1).1]; exact ((nameP_ok h).1.err (.inl rfl)).mono (Nat.zero_le _)
  | right h h1 h2 =>
    have g : ErrIn t _ x := h2.goes (mustP_ok h1).1
    exact g.mono (Nat.zero_le _)
  | rest h h1 h2 h3 =>
    have g : Goes t _ _ (.ok (_, _)) := h2.goes (mustP_ok h1).1
    exact (g.1.err (.inl rfl)).mono (Nat.zero_le _)
theorem Fm0.ok {t s : List UInt8} {e : List Nd} (h : Fm0 t (.ok (s, e))) : isName s = true ∧ Built e := by
  cases h with
  | done h h1 h2 h3 => exact ⟨(nameP_ok h).2.2.2.2, h2.tree trivial⟩
theorem wr_len {s : List UInt8} {T : Ft} (hs : isName s = true) (hT : T.ok) (hl : T.flat.length ≤ 64) : (s ++ [32, 126, 32] ++ T.pr).length ≤ 3300 := by
  have h1 := (isName_len hs).2
  have h2 := pr_len T hT
  simp only [List.length_append, List.length_cons, List.length_nil]
  omega
theorem law09_ReadsBack (s : List UInt8) (e : List Nd) (hs : s.length ≤ maxLen) (hl : e.length ≤ maxLen) : Ret Tryd.prog 5 [fmD s e] (· = .bool true) := by
  have aw := law09_awake
  have l1 := law09_light s e hs hl
  by_cases c1 : lightF s e = true
  · have n1 := lightF_len c1
    rw [c1] at l1
    have v1 := ref_Valid s e (by omega)
    by_cases c3 : vld s e = true
    · rw [c3] at v1
      obtain ⟨i1, b1, m1⟩ := vld_of c3
      obtain ⟨T, hT, hok⟩ := b1
      have f := formula_FormatY s e (by omega) c3 T hT hok
      have p := parse_ok (fmOk_pr i1 hok) (by rw [hT]; exact m1) (by have := wr_len i1 hok (by rw [hT]; exact m1); omega)
      rw [hT] at p
      have sm := ref09_Same s e (by omega)
      generalize s ++ [32, 126, 32] ++ T.pr = W at *
      refine ret_of_awp tab Tryd.func5 rfl rfl (Nat.le_of_ble_eq_true rfl) (fun w0 F0 => ?_)
      repeat' (first | refine wG ?_ | refine wC l1 ?_ | refine wC v1 ?_ | refine wC aw ?_ | refine wC f ?_ | refine wC p ?_ | refine wC sm ?_ | refine wR ?_ | refine wS ?_ ?_ <;> intro _ | refine finG ?_)
      all_goals rfl
    · have c3 : vld s e = false := by simpa using c3
      rw [c3] at v1
      refine ret_of_awp tab Tryd.func5 rfl rfl (Nat.le_of_ble_eq_true rfl) (fun w0 F0 => ?_)
      repeat' (first | refine wG ?_ | refine wC l1 ?_ | refine wC v1 ?_ | refine wC aw ?_ | refine wR ?_ | refine wS ?_ ?_ <;> intro _ | refine finG ?_)
      all_goals rfl
  · have c1 : lightF s e = false := by simpa using c1
    rw [c1] at l1
    refine ret_of_awp tab Tryd.func5 rfl rfl (Nat.le_of_ble_eq_true rfl) (fun w0 F0 => ?_)
    repeat' (first | refine wG ?_ | refine wC l1 ?_ | refine wC aw ?_ | refine wR ?_ | refine wS ?_ ?_ <;> intro _ | refine finG ?_)
    all_goals rfl
theorem fm0_ex (t : List UInt8) : ∃ o, Fm0 t o := by
  obtain ⟨o, h, _⟩ := fm_both t
  exact ⟨o, h⟩
theorem law09_IsStable (t : List UInt8) (hl : t.length ≤ maxLen) : Ret Tryd.prog 6 [.str t] (· = .bool true) := by
  have aw := law09_awake
  by_cases h6 : t.length ≤ 600
  · obtain ⟨o, h⟩ := fm0_ex t
    have p := parse_of h (by omega)
    have q := ref_of h (by omega)
    have bad : ∀ x : PErr, x.2 ≠ 0 → Ret Tryd.prog 11 [.str t] (· = .tup [.agg [.str [], .nils], .int .i64 x.1, .int .i64 x.2]) → Ret Tryd.prog 12 [.str t] (· = .tup [.agg [.str [], .nils], .int .i64 x.1, .int .i64 x.2]) → Ret Tryd.prog 6 [.str t] (· = .bool true) := fun x hx p q => by
      refine ret_of_awp tab Tryd.func6 rfl rfl (Nat.le_of_ble_eq_true rfl) (fun w0 F0 => ?_)
      repeat' (first | refine wG ?_ | refine wC aw ?_ | refine wC p ?_ | refine wC q ?_ | refine wR ?_ | refine wS ?_ ?_ <;> intro _ | refine finG ?_)
      all_goals first | rfl | simp
    cases o with
    | error x => exact bad x (by have := h.err.2.2.2; omega) p q
    | ok y =>
      obtain ⟨s, e⟩ := y
      obtain ⟨i1, T, hT, hok⟩ := h.ok
      unfold prsO at p q
      simp only at p q
      by_cases h64 : 64 < e.length
      · rw [if_pos h64] at p q
        exact bad (0, 2) (by decide) p q
      · rw [if_neg h64] at p q
        have p : Ret Tryd.prog 11 [.str t] (· = .tup [fmD s e, .int .i64 0, .int .i64 0]) := p
        have c3 : vld s e = true := by rw [vld_mk i1 ⟨T, hT, hok⟩]; simp; omega
        have v := formula_Valid s e (by omega)
        rw [c3] at v
        have f := formula_FormatY s e (by omega) c3 T hT hok
        have p2 := parse_ok (fmOk_pr i1 hok) (by rw [hT]; omega) (by have := wr_len i1 hok (by rw [hT]; omega); omega)
        rw [hT] at p2
        have sm := ref09_Same s e (by omega)
        generalize s ++ [32, 126, 32] ++ T.pr = W at *
        clear q bad h
        refine ret_of_awp tab Tryd.func6 rfl rfl (Nat.le_of_ble_eq_true rfl) (fun w0 F0 => ?_)
        repeat' (first | refine wG ?_ | refine wC aw ?_ | refine wC v ?_ | refine wC f ?_ | refine wC p ?_ | refine wC p2 ?_ | refine wC sm ?_ | refine wR ?_ | refine wS ?_ ?_ <;> intro _ | refine finG ?_)
        all_goals rfl
  · refine ret_of_awp tab Tryd.func6 rfl rfl (Nat.le_of_ble_eq_true rfl) (fun w0 F0 => ?_)
    repeat' (first | refine wG ?_ | refine wC aw ?_ | refine wR ?_ | refine wS ?_ ?_ <;> intro _ | refine finG ?_)
    all_goals rfl
end Go.Proofs.YtfnonogemgnlhaaDoor

/-
  What the reference writes. Conditions: not too many nodes.
-/
set_option maxHeartbeats 8000000
namespace Go.Proofs.YtfnonogemgnlhaaDoor
open Go.Vw
attribute [local irreducible] awp awpL awpR

theorem ref_rank (op : Int) : Ret Tryd.prog 54 [.int .i64 op] (· = .int .i64 (rk op + 1 : Nat)) := by
  unfold rk
  refine ret_of_awp tab Tryd.func54 rfl rfl (Nat.le_of_ble_eq_true rfl) (fun w0 F0 => ?_)
  repeat' (first | refine wG ?_ | refine wR ?_ | refine wS ?_ ?_ <;> intro _ | refine finG ?_)
  all_goals (refine congrArg (D.int .i64) ?_; ((repeat' split) <;> omega))
theorem ref_sgn (op : Int) (h : 5 ≤ op ∧ op ≤ 9) : Ret Tryd.prog 55 [.int .i64 op] (· = .str (sgB op)) := by
  have : op = 5 ∨ op = 6 ∨ op = 7 ∨ op = 8 ∨ op = 9 := by omega
  rcases this with e | e | e | e | e <;> subst e
  all_goals
    refine ret_of_awp tab Tryd.func55 rfl rfl (Nat.le_of_ble_eq_true rfl) (fun w0 F0 => ?_)
    repeat' (first | refine wG ?_ | refine wR ?_ | refine wS ?_ ?_ <;> intro _ | refine finG ?_)
    rfl
theorem ref_dig (m : Nat) (h : m ≤ 9) : Ret Tryd.prog 52 [.int .i64 m] (· = .str [dgB m]) := by
  have : m = 0 ∨ m = 1 ∨ m = 2 ∨ m = 3 ∨ m = 4 ∨ m = 5 ∨ m = 6 ∨ m = 7 ∨ m = 8 ∨ m = 9 := by omega
  rcases this with e | e | e | e | e | e | e | e | e | e <;> subst e
  all_goals
    refine ret_of_awp tab Tryd.func52 rfl rfl (Nat.le_of_ble_eq_true rfl) (fun w0 F0 => ?_)
    repeat' (first | refine wG ?_ | refine wR ?_ | refine wS ?_ ?_ <;> intro _ | refine finG ?_)
    rfl
theorem ref_bracketed (e : List Nd) (hl : e.length ≤ 1000) (T : Ft) (hok : T.ok) (a : Nat) (l : List Nd) (h : e.drop a = T.flat ++ l) (hx : Ret Tryd.prog 28 [ndsD e, .int .i64 a] (· = .str T.pr)) (r : Nat) (hr : r ≤ 4) : Ret Tryd.prog 53 [ndsD e, .int .i64 a, .int .i64 (r + 1 : Nat)] (· = .str (T.prB r)) := by
  obtain ⟨h1, h2⟩ := flat_head T h
  have ru := (ref_rank (e[a]?.getD nd0).1).to (r' := .int .i64 (rk T.op + 1 : Nat)) (by rw [h1])
  unfold Ft.prB
  have hs := pr_len T hok
  have hf : T.flat.length ≤ e.length := by
    have := congrArg List.length h
    simp at this; omega
  have hk : rk T.op ≤ 4 := by unfold rk; repeat' split
                              all_goals omega
  generalize rk T.op = k at *
  generalize T.pr = s at *
  have hs : s.length ≤ 60000 := by omega
  by_cases g : k < r
  · rw [decide_eq_true g]
    refine ret_of_awp tab Tryd.func53 rfl rfl (Nat.le_of_ble_eq_true rfl) (fun w0 F0 => ?_)
    repeat' (first | refine wG ?_ | refine wC ru ?_ | refine wC hx ?_ | refine wR ?_ | refine wS ?_ ?_ <;> intro _ | refine finG ?_)
    all_goals rfl
  · rw [decide_eq_false g]
    refine ret_of_awp tab Tryd.func53 rfl rfl (Nat.le_of_ble_eq_true rfl) (fun w0 F0 => ?_)
    repeat' (first | refine wG ?_ | refine wC ru ?_ | refine wC hx ?_ | refine wR ?_ | refine wS ?_ ?_ <;> intro _ | refine finG ?_)
    all_goals rfl
theorem ref_leaf (e : List Nd) (hl : e.length ≤ 1000) (op : Int) (s : List UInt8) (k : Int) (hok : leafOk (op, s, k)) (a : Nat) (l : List Nd) (h : e.drop a = (op, s, k) :: l) : Ret Tryd.prog 28 [ndsD e, .int .i64 a] (· = .str (leafB (op, s, k))) := by
    have h0 : e[a]?.getD nd0 = (op, s, k) := get_head h
    have h2 : a < e.length := (flat_head (.leaf (op, s, k)) h).2
    clear h
    rcases hok with ⟨q, q1, q2⟩ | ⟨q, q1, q2, q3⟩ | ⟨q | q, q1, q2⟩ <;> simp only at q q1 q2 <;> subst q
    · show Ret _ _ _ (· = .str s)
      subst q2
      refine ret_of_awp tab Tryd.func28 rfl rfl (Nat.le_of_ble_eq_true rfl) (fun w0 F0 => ?_)
      repeat' (first | refine stopA 2 tt ?_ | refine wG ?_ | refine rg 6 7 ?_ | refine rg 12 8 ?_ | refine rg 14 17 ?_ | refine wR ?_ | refine wS ?_ ?_ <;> intro _ | refine finG ?_)
      refine stopOut ?_
      refine awp_rename [(0, .d (ndsD e)), (1, .d (.int .i64 a)), (4, .d (.str [])), (5, .ptr 5 0)] [(5, .box ndT [.d (.int .i64 1), .d (.str s), .d (.int .i64 0)])] [] ⟨rfl, rfl, rfl, rfl, rfl⟩ ⟨ndBEq h0, trivial⟩ ?_
      repeat' (first | refine wG ?_ | refine rg 6 7 ?_ | refine rg 12 8 ?_ | refine rg 14 17 ?_ | refine wR ?_ | refine wS ?_ ?_ <;> intro _ | refine finG ?_)
      all_goals rfl
    · obtain ⟨m, rfl⟩ : ∃ m : Nat, k = m := ⟨k.toNat, by omega⟩
      have hs := (isName_len q1).2
      have it := ref_dig m (by simp only at q3; omega)
      have hr : leafB ((2 : Int), s, (m : Int)) = (((([112, 111, 119, 101, 114, 40] : List UInt8) ++ s) ++ [44, 32]) ++ [dgB m]) ++ [41] := by simp [leafB, pwB]
      rw [hr]
      refine ret_of_awp tab Tryd.func28 rfl rfl (Nat.le_of_ble_eq_true rfl) (fun w0 F0 => ?_)
      repeat' (first | refine stopA 2 tt ?_ | refine wG ?_ | refine rg 6 7 ?_ | refine rg 12 8 ?_ | refine rg 14 17 ?_ | refine wR ?_ | refine wS ?_ ?_ <;> intro _ | refine finG ?_)
      refine stopOut ?_
      refine awp_rename [(0, .d (ndsD e)), (1, .d (.int .i64 a)), (4, .d (.str [])), (5, .ptr 5 0)] [(5, .box ndT [.d (.int .i64 2), .d (.str s), .d (.int .i64 m)])] [] ⟨rfl, rfl, rfl, rfl, rfl⟩ ⟨ndBEq h0, trivial⟩ ?_
      repeat' (first | refine wG ?_ | refine wC it ?_ | refine rg 6 7 ?_ | refine rg 12 8 ?_ | refine rg 14 17 ?_ | refine wR ?_ | refine wS ?_ ?_ <;> intro _ | refine finG ?_)
      all_goals rfl
    · subst q1 q2
      refine ret_of_awp tab Tryd.func28 rfl rfl (Nat.le_of_ble_eq_true rfl) (fun w0 F0 => ?_)
      repeat' (first | refine stopA 2 tt ?_ | refine wG ?_ | refine rg 6 7 ?_ | refine rg 12 8 ?_ | refine rg 14 17 ?_ | refine wR ?_ | refine wS ?_ ?_ <;> intro _ | refine finG ?_)
      refine stopOut ?_
      refine awp_rename [(0, .d (ndsD e)), (1, .d (.int .i64 a)), (4, .d (.str [])), (5, .ptr 5 0)] [(5, .box ndT [.d (.int .i64 3), .d (.str []), .d (.int .i64 0)])] [] ⟨rfl, rfl, rfl, rfl, rfl⟩ ⟨ndBEq h0, trivial⟩ ?_
      repeat' (first | refine wG ?_ | refine rg 6 7 ?_ | refine rg 12 8 ?_ | refine rg 14 17 ?_ | refine wR ?_ | refine wS ?_ ?_ <;> intro _ | refine finG ?_)
      all_goals rfl
    · subst q1 q2
      refine ret_of_awp tab Tryd.func28 rfl rfl (Nat.le_of_ble_eq_true rfl) (fun w0 F0 => ?_)
      repeat' (first | refine stopA 2 tt ?_ | refine wG ?_ | refine rg 6 7 ?_ | refine rg 12 8 ?_ | refine rg 14 17 ?_ | refine wR ?_ | refine wS ?_ ?_ <;> intro _ | refine finG ?_)
      refine stopOut ?_
      refine awp_rename [(0, .d (ndsD e)), (1, .d (.int .i64 a)), (4, .d (.str [])), (5, .ptr 5 0)] [(5, .box ndT [.d (.int .i64 4), .d (.str []), .d (.int .i64 0)])] [] ⟨rfl, rfl, rfl, rfl, rfl⟩ ⟨ndBEq h0, trivial⟩ ?_
      repeat' (first | refine wG ?_ | refine rg 6 7 ?_ | refine rg 12 8 ?_ | refine rg 14 17 ?_ | refine wR ?_ | refine wS ?_ ?_ <;> intro _ | refine finG ?_)
      all_goals rfl
theorem ref_write (e : List Nd) (hl : e.length ≤ 1000) : ∀ (T : Ft), T.ok → ∀ (a : Nat) (l : List Nd), e.drop a = T.flat ++ l → Ret Tryd.prog 28 [ndsD e, .int .i64 a] (· = .str T.pr)
  | .leaf n, hok, a, l, h => ref_leaf e hl n.1 n.2.1 n.2.2 hok a l h
  | .un k b, hok, a, l, h => by
    have hok : 1 ≤ k ∧ k ≤ 6 ∧ b.ok := hok
    have h : e.drop a = ((10 : Int), [], k) :: (b.flat ++ l) := h
    have h0 : e[a]?.getD nd0 = ((10 : Int), [], k) := get_head h
    have h2 : a < e.length := (flat_head (.un k b) (l := l) h).2
    have h3 := drop_one h
    have po := ref_bracketed e hl b hok.2.2 (a + 1) l h3 (ref_write e hl b hok.2.2 (a + 1) l h3) 3 (by omega)
    have hs := prB_len b hok.2.2 3
    have hf : b.flat.length ≤ e.length := by
      have := congrArg List.length h3
      simp at this; omega
    have hsl : (b.prB 3).length ≤ 60000 := by omega
    obtain ⟨m, rfl⟩ : ∃ m : Nat, k = m := ⟨k.toNat, by omega⟩
    have it := ref_dig m (by omega)
    have hr : (Ft.un (m : Int) b).pr = (b.prB 3 ++ [94]) ++ [dgB m] := by simp [Ft.pr, Ft.prB]
    rw [hr]
    generalize b.prB 3 = s at *
    clear hs h h3 hr
    refine ret_of_awp tab Tryd.func28 rfl rfl (Nat.le_of_ble_eq_true rfl) (fun w0 F0 => ?_)
    repeat' (first | refine stopA 2 tt ?_ | refine wG ?_ | refine rg 6 7 ?_ | refine rg 12 8 ?_ | refine rg 14 17 ?_ | refine wR ?_ | refine wS ?_ ?_ <;> intro _ | refine finG ?_)
    refine stopOut ?_
    refine awp_rename [(0, .d (ndsD e)), (1, .d (.int .i64 a)), (4, .d (.str [])), (5, .ptr 5 0)] [(5, .box ndT [.d (.int .i64 10), .d (.str []), .d (.int .i64 m)])] [] ⟨rfl, rfl, rfl, rfl, rfl⟩ ⟨ndBEq h0, trivial⟩ ?_
    repeat' (first | refine wG ?_ | refine wC po ?_ | refine wC it ?_ | refine rg 6 7 ?_ | refine rg 12 8 ?_ | refine rg 14 17 ?_ | refine wR ?_ | refine wS ?_ ?_ <;> intro _ | refine finG ?_)
    all_goals rfl
  | .bi op b c, hok, a, l, h => by
    have hok : 5 ≤ op ∧ op ≤ 9 ∧ b.ok ∧ c.ok := hok
    have h : e.drop a = (op, [], (0 : Int)) :: (b.flat ++ (c.flat ++ l)) := by
      rw [h]; simp [Ft.flat]
    have h0 : e[a]?.getD nd0 = (op, [], (0 : Int)) := get_head h
    have h3 := drop_one h
    have h4 := drop_flat h3
    have h2 := (flat_head c h4).2
    have hf : b.flat.length ≤ e.length := by omega
    have hf2 : c.flat.length ≤ e.length := by
      have := congrArg List.length h4
      simp at this; omega
    have en := ref_End e (a + 1) (by omega) hl
    have ee : endI e (a + 1) 1 = (a + 1 + b.flat.length : Nat) := by
      unfold endI
      rw [h3, endN_app b hok.2.2.1 _ 0, if_pos rfl]
      simp only; omega
    rw [ee] at en
    have po : ∀ r, r ≤ 4 → _ := ref_bracketed e hl b hok.2.2.1 (a + 1) _ h3 (ref_write e hl b hok.2.2.1 (a + 1) _ h3)
    have po2 : ∀ r, r ≤ 4 → _ := ref_bracketed e hl c hok.2.2.2 (a + 1 + b.flat.length) _ h4 (ref_write e hl c hok.2.2.2 _ _ h4)
    have hs : ∀ r, (b.prB r).length ≤ 60000 := fun r => by have := prB_len b hok.2.2.1 r; omega
    have hs2 : ∀ r, (c.prB r).length ≤ 60000 := fun r => by have := prB_len c hok.2.2.2 r; omega
    have hr : (Ft.bi op b c).pr = (b.prB (rk op) ++ sgB op) ++ c.prB (rk op + 1) := by simp [Ft.pr, Ft.prB]
    rw [hr]
    have ha : a < e.length := by omega
    have ha2 : a + 1 ≤ e.length := by omega
    generalize a + 1 + b.flat.length = a2 at *
    have sg := ref_sgn op ⟨hok.1, hok.2.1⟩
    have hop : op = 5 ∨ op = 6 ∨ op = 7 ∨ op = 8 ∨ op = 9 := by omega
    clear h h3 h4 hr hf hf2 ee
    rcases hop with q | q | q | q | q <;> subst q
    · have po := po 0 (by omega)
      have po2 := po2 1 (by omega)
      have hs := hs 0
      have hs2 := hs2 1
      have ru := ref_rank 5
      have sg : Ret Tryd.prog 55 [.int .i64 5] (· = .str [32, 43, 32]) := sg
      show Ret _ _ _ (· = .str ((b.prB 0 ++ [32, 43, 32]) ++ c.prB 1))
      generalize b.prB 0 = s1 at *
      generalize c.prB 1 = s2 at *
      refine ret_of_awp tab Tryd.func28 rfl rfl (Nat.le_of_ble_eq_true rfl) (fun w0 F0 => ?_)
      repeat' (first | refine stopA 2 tt ?_ | refine wG ?_ | refine rg 6 7 ?_ | refine rg 12 8 ?_ | refine rg 14 17 ?_ | refine wR ?_ | refine wS ?_ ?_ <;> intro _ | refine finG ?_)
      refine stopOut ?_
      refine awp_rename [(0, .d (ndsD e)), (1, .d (.int .i64 a)), (4, .d (.str [])), (5, .ptr 5 0)] [(5, .box ndT [.d (.int .i64 5), .d (.str []), .d (.int .i64 0)])] [] ⟨rfl, rfl, rfl, rfl, rfl⟩ ⟨ndBEq h0, trivial⟩ ?_
      repeat' (first | refine wG ?_ | refine wC ((ru.to (r' := .int .i64 1) rfl)) ?_ | refine wC sg ?_ | refine wC en ?_ | refine wC po ?_ | refine wC po2 ?_ | refine rg 6 7 ?_ | refine rg 12 8 ?_ | refine rg 14 17 ?_ | refine wR ?_ | refine wS ?_ ?_ <;> intro _ | refine finG ?_)
      all_goals rfl
    · have po := po 0 (by omega)
      have po2 := po2 1 (by omega)
      have hs := hs 0
      have hs2 := hs2 1
      have ru := ref_rank 6
      have sg : Ret Tryd.prog 55 [.int .i64 6] (· = .str [32, 45, 32]) := sg
      show Ret _ _ _ (· = .str ((b.prB 0 ++ [32, 45, 32]) ++ c.prB 1))
      generalize b.prB 0 = s1 at *
      generalize c.prB 1 = s2 at *
      refine ret_of_awp tab Tryd.func28 rfl rfl (Nat.le_of_ble_eq_true rfl) (fun w0 F0 => ?_)
      repeat' (first | refine stopA 2 tt ?_ | refine wG ?_ | refine rg 6 7 ?_ | refine rg 12 8 ?_ | refine rg 14 17 ?_ | refine wR ?_ | refine wS ?_ ?_ <;> intro _ | refine finG ?_)
      refine stopOut ?_
      refine awp_rename [(0, .d (ndsD e)), (1, .d (.int .i64 a)), (4, .d (.str [])), (5, .ptr 5 0)] [(5, .box ndT [.d (.int .i64 6), .d (.str []), .d (.int .i64 0)])] [] ⟨rfl, rfl, rfl, rfl, rfl⟩ ⟨ndBEq h0, trivial⟩ ?_
      repeat' (first | refine wG ?_ | refine wC ((ru.to (r' := .int .i64 1) rfl)) ?_ | refine wC sg ?_ | refine wC en ?_ | refine wC po ?_ | refine wC po2 ?_ | refine rg 6 7 ?_ | refine rg 12 8 ?_ | refine rg 14 17 ?_ | refine wR ?_ | refine wS ?_ ?_ <;> intro _ | refine finG ?_)
      all_goals rfl
    · have po := po 2 (by omega)
      have po2 := po2 3 (by omega)
      have hs := hs 2
      have hs2 := hs2 3
      have ru := ref_rank 7
      have sg : Ret Tryd.prog 55 [.int .i64 7] (· = .str [58]) := sg
      show Ret _ _ _ (· = .str ((b.prB 2 ++ [58]) ++ c.prB 3))
      generalize b.prB 2 = s1 at *
      generalize c.prB 3 = s2 at *
      refine ret_of_awp tab Tryd.func28 rfl rfl (Nat.le_of_ble_eq_true rfl) (fun w0 F0 => ?_)
      repeat' (first | refine stopA 2 tt ?_ | refine wG ?_ | refine rg 6 7 ?_ | refine rg 12 8 ?_ | refine rg 14 17 ?_ | refine wR ?_ | refine wS ?_ ?_ <;> intro _ | refine finG ?_)
      refine stopOut ?_
      refine awp_rename [(0, .d (ndsD e)), (1, .d (.int .i64 a)), (4, .d (.str [])), (5, .ptr 5 0)] [(5, .box ndT [.d (.int .i64 7), .d (.str []), .d (.int .i64 0)])] [] ⟨rfl, rfl, rfl, rfl, rfl⟩ ⟨ndBEq h0, trivial⟩ ?_
      repeat' (first | refine wG ?_ | refine wC ((ru.to (r' := .int .i64 3) rfl)) ?_ | refine wC sg ?_ | refine wC en ?_ | refine wC po ?_ | refine wC po2 ?_ | refine rg 6 7 ?_ | refine rg 12 8 ?_ | refine rg 14 17 ?_ | refine wR ?_ | refine wS ?_ ?_ <;> intro _ | refine finG ?_)
      all_goals rfl
    · have po := po 1 (by omega)
      have po2 := po2 2 (by omega)
      have hs := hs 1
      have hs2 := hs2 2
      have ru := ref_rank 8
      have sg : Ret Tryd.prog 55 [.int .i64 8] (· = .str [32, 42, 32]) := sg
      show Ret _ _ _ (· = .str ((b.prB 1 ++ [32, 42, 32]) ++ c.prB 2))
      generalize b.prB 1 = s1 at *
      generalize c.prB 2 = s2 at *
      refine ret_of_awp tab Tryd.func28 rfl rfl (Nat.le_of_ble_eq_true rfl) (fun w0 F0 => ?_)
      repeat' (first | refine stopA 2 tt ?_ | refine wG ?_ | refine rg 6 7 ?_ | refine rg 12 8 ?_ | refine rg 14 17 ?_ | refine wR ?_ | refine wS ?_ ?_ <;> intro _ | refine finG ?_)
      refine stopOut ?_
      refine awp_rename [(0, .d (ndsD e)), (1, .d (.int .i64 a)), (4, .d (.str [])), (5, .ptr 5 0)] [(5, .box ndT [.d (.int .i64 8), .d (.str []), .d (.int .i64 0)])] [] ⟨rfl, rfl, rfl, rfl, rfl⟩ ⟨ndBEq h0, trivial⟩ ?_
      repeat' (first | refine wG ?_ | refine wC ((ru.to (r' := .int .i64 2) rfl)) ?_ | refine wC sg ?_ | refine wC en ?_ | refine wC po ?_ | refine wC po2 ?_ | refine rg 6 7 ?_ | refine rg 12 8 ?_ | refine rg 14 17 ?_ | refine wR ?_ | refine wS ?_ ?_ <;> intro _ | refine finG ?_)
      all_goals rfl
    · have po := po 1 (by omega)
      have po2 := po2 2 (by omega)
      have hs := hs 1
      have hs2 := hs2 2
      have ru := ref_rank 9
      have sg : Ret Tryd.prog 55 [.int .i64 9] (· = .str [32, 47, 32]) := sg
      show Ret _ _ _ (· = .str ((b.prB 1 ++ [32, 47, 32]) ++ c.prB 2))
      generalize b.prB 1 = s1 at *
      generalize c.prB 2 = s2 at *
      refine ret_of_awp tab Tryd.func28 rfl rfl (Nat.le_of_ble_eq_true rfl) (fun w0 F0 => ?_)
      repeat' (first | refine stopA 2 tt ?_ | refine wG ?_ | refine rg 6 7 ?_ | refine rg 12 8 ?_ | refine rg 14 17 ?_ | refine wR ?_ | refine wS ?_ ?_ <;> intro _ | refine finG ?_)
      refine stopOut ?_
      refine awp_rename [(0, .d (ndsD e)), (1, .d (.int .i64 a)), (4, .d (.str [])), (5, .ptr 5 0)] [(5, .box ndT [.d (.int .i64 9), .d (.str []), .d (.int .i64 0)])] [] ⟨rfl, rfl, rfl, rfl, rfl⟩ ⟨ndBEq h0, trivial⟩ ?_
      repeat' (first | refine wG ?_ | refine wC ((ru.to (r' := .int .i64 2) rfl)) ?_ | refine wC sg ?_ | refine wC en ?_ | refine wC po ?_ | refine wC po2 ?_ | refine rg 6 7 ?_ | refine rg 12 8 ?_ | refine rg 14 17 ?_ | refine wR ?_ | refine wS ?_ ?_ <;> intro _ | refine finG ?_)
      all_goals rfl
end Go.Proofs.YtfnonogemgnlhaaDoor

/-
  The law on writing. Conditions: none.
-/
set_option maxHeartbeats 8000000
namespace Go.Proofs.YtfnonogemgnlhaaDoor
open Go.Vw
attribute [local irreducible] awp awpL awpR

theorem ref_FormatN (s : List UInt8) (e : List Nd) (hl : e.length ≤ 1000) (h : vld s e = false) : Ret Tryd.prog 16 [fmD s e] (· = .tup [.str [], .int .i64 4]) := by
  have v := ref_Valid s e hl
  rw [h] at v
  refine ret_of_awp tab Tryd.func16 rfl rfl (Nat.le_of_ble_eq_true rfl) (fun w0 F0 => ?_)
  repeat' (first | refine wG ?_ | refine wC v ?_ | refine rg 3 6 ?_ | refine wR ?_ | refine wS ?_ ?_ <;> intro _ | refine finTG ?_)
  exact leT
theorem ref_FormatY (s : List UInt8) (e : List Nd) (hl : e.length ≤ 1000) (h : vld s e = true) (T : Ft) (hT : T.flat = e) (hok : T.ok) : Ret Tryd.prog 16 [fmD s e] (· = .tup [.str (s ++ [32, 126, 32] ++ T.pr), .int .i64 0]) := by
  have v := ref_Valid s e hl
  rw [h] at v
  have hs : s.length ≤ 32 := by
    unfold vld at h
    rw [Bool.and_eq_true] at h
    exact (isName_len h.1).2
  have ht := pr_len T hok
  have ht : T.pr.length ≤ 50000 := by rw [hT] at ht; omega
  have px : Ret Tryd.prog 28 [ndsD e, .int .i64 0] (· = .str T.pr) := ref_write e hl T hok 0 [] (by rw [hT]; simp)
  generalize T.pr = r at *
  refine ret_of_awp tab Tryd.func16 rfl rfl (Nat.le_of_ble_eq_true rfl) (fun w0 F0 => ?_)
  repeat' (first | refine wG ?_ | refine wC v ?_ | refine wC px ?_ | refine rg 3 6 ?_ | refine wR ?_ | refine wS ?_ ?_ <;> intro _ | refine finTG ?_)
  exact leT
theorem law09_Formats (s : List UInt8) (e : List Nd) (hs : s.length ≤ maxLen) (hl : e.length ≤ maxLen) : Ret Tryd.prog 4 [fmD s e] (· = .bool true) := by
  have aw := law09_awake
  have l1 := law09_light s e hs hl
  by_cases c1 : lightF s e = true
  · have n1 := lightF_len c1
    rw [c1] at l1
    have v1 := ref_Valid s e (by omega)
    have v2 := formula_Valid s e (by omega)
    by_cases c3 : vld s e = true
    · obtain ⟨i1, b1, m1⟩ := vld_of c3
      obtain ⟨T, hT, hok⟩ := b1
      have f := formula_FormatY s e (by omega) c3 T hT hok
      have g := ref_FormatY s e (by omega) c3 T hT hok
      rw [c3] at v1 v2
      generalize s ++ [32, 126, 32] ++ T.pr = W at *
      refine ret_of_awp tab Tryd.func4 rfl rfl (Nat.le_of_ble_eq_true rfl) (fun w0 F0 => ?_)
      repeat' (first | refine wG ?_ | refine wC l1 ?_ | refine wC v1 ?_ | refine wC v2 ?_ | refine wC aw ?_ | refine wC f ?_ | refine wC g ?_ | refine rg 5 15 ?_ | refine wR ?_ | refine wS ?_ ?_ <;> intro _ | refine finG ?_)
      all_goals first | rfl | (exact absurd rfl (by assumption)) | simp
    · have c3 : vld s e = false := by simpa using c3
      have f := formula_FormatN s e (by omega) c3
      have g := ref_FormatN s e (by omega) c3
      rw [c3] at v1 v2
      refine ret_of_awp tab Tryd.func4 rfl rfl (Nat.le_of_ble_eq_true rfl) (fun w0 F0 => ?_)
      repeat' (first | refine wG ?_ | refine wC l1 ?_ | refine wC v1 ?_ | refine wC v2 ?_ | refine wC aw ?_ | refine wC f ?_ | refine wC g ?_ | refine rg 5 15 ?_ | refine wR ?_ | refine wS ?_ ?_ <;> intro _ | refine finG ?_)
      all_goals first | rfl | (exact absurd rfl (by assumption)) | simp
  · have c1 : lightF s e = false := by simpa using c1
    rw [c1] at l1
    refine ret_of_awp tab Tryd.func4 rfl rfl (Nat.le_of_ble_eq_true rfl) (fun w0 F0 => ?_)
    repeat' (first | refine wG ?_ | refine wC l1 ?_ | refine wC aw ?_ | refine rg 5 15 ?_ | refine wR ?_ | refine wS ?_ ?_ <;> intro _ | refine finG ?_)
    all_goals rfl
end Go.Proofs.YtfnonogemgnlhaaDoor
